/- Texts of this proof laid together. -/
import Derived.Test.YtkcolpfanmdmiaaGreatDoorVM17
import Derived.Laws.Entries
import Derived.Conc.LoneSelectN
import Derived.Scope
set_option maxHeartbeats 8000000
open Go Go.V
variable {af : Array Edge} {ops : Array Oper} {E : Env} {K : Env → World → Prop} {Q : Exit → Act → World → Prop} {b : Frame} {i j : Int} {k k' k2 : IntKind} {cs : List Frame} {kk : List Item} {l : List Oper} {vs : List Ver} {by_ c dq ix last m mark n st sz t t' u : Nat} {dr : Nat × List Nat} {F : Nat → Prop} {x y z : Operand} {g : Option (Nat × Bool)} {p : Option Addr} {d : Option Nat} {P : Program} {pos : String} {ty : TypeId} {w w' : World}
namespace Go.Proofs.YtkcolpfanmdmiaaGreatDoor
open Go.V
attribute [local irreducible] Blk Own hcell Ao Ab PlainT Ak Ad Ap Aa Ag EqT Au
def IxK (ix:Nat) (w:World) (k:Nat):Prop:=ix≤k∧IxB w k
structure Stq (ix:Nat) (T:List Nat) (g g':Nat→Nat) (w w':World):Prop where
 os:w'.os=w.os
 tape:w'.tape=w.tape
 output:w'.output=w.output
 size:w.heap.size≤w'.heap.size
 block:∀k,k<w.heap.size→(IxK ix w k→3 ∉ T)→(¬IxK ix w k→g k ∉ T)→w'.heap[k]?=w.heap[k]?
 tags:∀k,k<w.heap.size→g' k=g k
def rt (g:Nat→Nat) (w:World) (t:Nat):Nat→Nat:=fun k=>if k<w.heap.size then g k else t
theorem AY {g:Nat→Nat} {w:World} {t k:Nat} (h:k<w.heap.size):rt g w t k=g k:=if_pos h
theorem CU {g:Nat→Nat} {w:World} {t k:Nat} (h:w.heap.size≤k):rt g w t k=t:=if_neg (by omega)
variable {T U : List Nat} {g g1 g' : Nat → Nat} {w1 : World} {j : Nat}
theorem IxK.same {k:Nat} (e:w'.heap[k]?=w.heap[k]?):IxK ix w' k ↔ IxK ix w k:=by unfold IxK IxB;rw [e]
theorem Stq.rfl':Stq ix T g g w w:=⟨rfl,rfl,rfl,Nat.le_refl _,fun _ _ _ _=>rfl,fun _ _=>rfl⟩
theorem Stq.trans (h:Stq ix T g g1 w w1) (k:Stq ix T g1 g' w1 w'):Stq ix T g g' w w' :=
 ⟨k.os.trans h.os,k.tape.trans h.tape,k.output.trans h.output,Nat.le_trans h.size k.size,fun q hq h1 h2=>by
  have e:=h.block q hq h1 h2
  rw [k.block q (Nat.lt_of_lt_of_le hq h.size) (fun h3=>h1 ((IxK.same e).1 h3)) (fun h3=>by rw [h.tags q hq];exact h2 (fun h4=>h3 ((IxK.same e).2 h4)))]
  exact e,fun q hq=>(k.tags q (Nat.lt_of_lt_of_le hq h.size)).trans (h.tags q hq)⟩
theorem Stq.mono (h:Stq ix T g g' w w') (hT:∀t,t∈T→t∈U):Stq ix U g g' w w' :=
 ⟨h.os,h.tape,h.output,h.size,fun q hq h1 h2=>h.block q hq (fun h3 h4=>h1 h3 (hT _ h4)) (fun h3 h4=>h2 h3 (hT _ h4)),h.tags⟩
theorem Stq.of_ext (h:Ext w w') (t:Nat):Stq ix T g (rt g w t) w w':=⟨h.os,h.tape,h.output,h.size,fun k hk _ _=>h.block k hk,fun _ hk=>AY hk⟩
theorem Stq.of_ext' (h:Ext w w'):Stq ix T g g w w':=⟨h.os,h.tape,h.output,h.size,fun k hk _ _=>h.block k hk,fun _ _=>rfl⟩
theorem Stq.of_frs {F:Nat→Prop} (h:FrS F w w') (t:Nat) (hF:∀k,k<w.heap.size→F k→¬IxB w k∧g k∈T):Stq ix T g (rt g w t) w w' :=
 ⟨h.os,h.tape,h.output,h.size,fun k hk _ h2=>h.block k hk (fun hf=>h2 (fun h3=>(hF k hk hf).1 h3.2) (hF k hk hf).2),fun _ hk=>AY hk⟩
theorem Stq.of_grown {b:Nat} (h:w.grownBy w' (some b)) (t:Nat) (hx:¬IxB w b) (hT:g b∈T):Stq ix T g (rt g w t) w w' :=
 ⟨h.os,h.tape,h.output,h.size,fun k hk _ h2=>h.block k hk (fun e=>by injection e with e;subst e;exact h2 (fun h3=>hx h3.2) hT),fun _ hk=>AY hk⟩
theorem Stq.toE (h:Stq ix T g g' w w') {W:World} (hx:Ext W w) (h0:∀k,k<W.heap.size→g k=0) (hi:W.heap.size≤ix) (hT:0 ∉ T):Ext W w' :=
 ⟨h.os.trans hx.os,h.tape.trans hx.tape,h.output.trans hx.output,Nat.le_trans hx.size h.size,fun k hk=>(h.block k (Nat.lt_of_lt_of_le hk hx.size) (fun e=>by have:=e.1;omega) (fun _=>by rw [h0 k hk];exact hT)).trans (hx.block k hk)⟩
structure Bk (g:Nat→Nat) (w:World) (j b t:Nat) (cs:List Value):Prop where
 blk:Blk w.heap b t cs
 tag:g b=j
 nx:¬ixT t
theorem Bk.nix {b t:Nat} {cs:List Value} (h:Bk g w j b t cs):¬IxB w b:=(Blk.noB h.blk h.nx).not
theorem Bk.lt {b t:Nat} {cs:List Value} (h:Bk g w j b t cs):b<w.heap.size:=h.blk.lt
theorem Bk.stp {b t : Nat} {cs : List Value} (h : Bk g w j b t cs) (s : Stq ix T g g' w w') (hj : j ∉ T) : Bk g' w' j b t cs :=
  ⟨by have := s.block b h.lt (fun e => absurd e.2 h.nix) (fun _ => by rw [h.tag]; exact hj)
      have h2 := h.blk
      unfold Blk at *
      rw [this]; exact h2, (s.tags b h.lt).trans h.tag, h.nx⟩
theorem Bk.ext {b t:Nat} {cs:List Value} (h:Bk g w j b t cs) (hx:Ext w w') (u:Nat):Bk (rt g w u) w' j b t cs:=⟨h.blk.ext hx,(AY h.lt).trans h.tag,h.nx⟩
theorem Bk.ext' {b t:Nat} {cs:List Value} (h:Bk g w j b t cs) (hx:Ext w w'):Bk g w' j b t cs:=⟨h.blk.ext hx,h.tag,h.nx⟩
theorem Bk.new {b t u:Nat} {cs:List Value} (h:Blk w'.heap b t cs) (hb:w.heap.size≤b) (ht:¬ixT t):Bk (rt g w u) w' u b t cs:=⟨h,CU hb,ht⟩
theorem Bk.grown {b c t u:Nat} {cs:List Value} (h:Bk g w j b t cs) (hg:w.grownBy w' (some c)) (hne:c≠b):Bk (rt g w u) w' j b t cs:=⟨h.blk.grown hg (fun e=>hne (by injection e)),(AY h.lt).trans h.tag,h.nx⟩
theorem Bk.turn {b t:Nat} {cs:List Value} {row:Option Nat} (h:Bk g w j b t cs) (hg:w.grownBy w' row) (hne:row≠some b) (u:Nat):Bk (rt g w u) w' j b t cs:=⟨h.blk.grown hg hne,(AY h.lt).trans h.tag,h.nx⟩
theorem Bk.neT {b c t u j':Nat} {cs ds:List Value} (h:Bk g w j b t cs) (k:Bk g w j' c u ds) (ht:t≠u):b≠c:=BB h.blk k.blk ht
theorem Bk.turned {b t u:Nat} {cs ds:List Value} (h:Bk g w j b t cs) (hb:Blk w'.heap b t ds):Bk (rt g w u) w' j b t ds:=⟨hb,(AY h.lt).trans h.tag,h.nx⟩
theorem Bk.stpG {b t:Nat} {cs:List Value} (h:Bk g w j b t cs) (hg:w.grownBy w' (some b)) (u:Nat) (hT:j∈T):Stq ix T g (rt g w u) w w':=Stq.of_grown hg u h.nix (by rw [h.tag];exact hT)
structure Rw {α:Type} (g:Nat→Nat) (w:World) (j T:Nat) (e:Enc α) (p:Option Addr) (c:Nat) (xs:List α):Prop where
 own:Go.V.Own w 0 T e p c xs
 tag:∀k,blk p=some k→g k=j
 nx:¬ixT T
variable {α : Type} {e : Enc α} {E : Nat} {xs : List α}
theorem Rw.nil (hx:¬ixT E):Rw g w j E e none 0 []:=⟨Own.nil _ _ _ _,fun _ h=>(by cases h),hx⟩
theorem Rw.sl (h:Rw g w j E e p c xs):Sl w.heap e p c xs:=h.own.sl
theorem Rw.nix (h:Rw g w j E e p c xs) {k:Nat} (hk:blk p=some k):¬IxB w k:=(Own.noB h.own h.nx hk).not
theorem Rw.lt (h:Rw g w j E e p c xs) {k:Nat} (hk:blk p=some k):k<w.heap.size:=(h.own.ge k hk).2
theorem Rw.keep (h : Rw g w j E e p c xs) (hs : ∀ k, blk p = some k → w'.heap[k]? = w.heap[k]? ∧ g' k = g k) : Rw g' w' j E e p c xs :=
  ⟨by have h0 := h.own
      unfold Go.V.Own at h0 ⊢
      obtain ⟨h1, h2⟩ := h0
      refine ⟨h1, ?_⟩
      rcases h2 with h2 | ⟨q, cap, cur, h3, h4, h5, h6⟩
      · exact .inl h2
      · refine .inr ⟨q, cap, cur, h3, h4, ?_, h6⟩
        injection h3 with h3 _ _
        rw [(hs q (by rw [h3]; rfl)).1]
        exact h5, fun k hk => (hs k hk).2.trans (h.tag k hk), h.nx⟩
theorem Rw.stp (h:Rw g w j E e p c xs) (s:Stq ix T g g' w w') (hj:j ∉ T):Rw g' w' j E e p c xs :=
 h.keep fun k hk=>⟨s.block k (h.lt hk) (fun e=>absurd e.2 (h.nix hk)) (fun _=>by rw [h.tag k hk];exact hj),s.tags k (h.lt hk)⟩
theorem Rw.ext (h:Rw g w j E e p c xs) (hx:Ext w w') (u:Nat):Rw (rt g w u) w' j E e p c xs:=h.keep fun k hk=>⟨hx.block k (h.lt hk),AY (h.lt hk)⟩
theorem Rw.ext' (h:Rw g w j E e p c xs) (hx:Ext w w'):Rw g w' j E e p c xs:=h.keep fun k hk=>⟨hx.block k (h.lt hk),rfl⟩
theorem Rw.grown {b u:Nat} (h:Rw g w j E e p c xs) (hg:w.grownBy w' (some b)) (hne:blk p≠some b):Rw (rt g w u) w' j E e p c xs:=h.keep fun k hk=>⟨hg.block k (h.lt hk) (fun e=>hne (by rw [hk,e])),AY (h.lt hk)⟩
theorem Rw.turn {row:Option Nat} (h:Rw g w j E e p c xs) (hg:w.grownBy w' row) (hne:∀k,blk p=some k→row≠some k) (u:Nat):Rw (rt g w u) w' j E e p c xs:=h.keep fun k hk=>⟨hg.block k (h.lt hk) (fun e=>hne k hk e.symm),AY (h.lt hk)⟩
theorem Rw.neT {β:Type} {f:Enc β} {q:Option Addr} {d E' j':Nat} {ys:List β} (h:Rw g w j E e p c xs) (k:Rw g w j' E' f q d ys) (ht:E≠E'):∀k,blk q=some k→blk p≠some k:=by
 intro k' hk hp
 obtain ⟨c1,h1⟩:=Own.at h.own hp
 obtain ⟨c2,h2⟩:=Own.at k.own hk
 rw [h1] at h2
 simp at h2
 exact ht h2.2
theorem Rw.new {B u:Nat} (h:Go.V.Own w' B E e p c xs) (hB:w.heap.size≤B) (hx:¬ixT E):Rw (rt g w u) w' u E e p c xs:=⟨h.base (Nat.zero_le _),fun k hk=>CU (by have:=(h.ge k hk).1;omega),hx⟩
theorem Rw.neB {b t j':Nat} {cs:List Value} (h:Rw g w j E e p c xs) (k:Bk g w j' b t cs) (ht:E≠t):blk p≠some b:=h.own.neB k.blk ht
theorem Rw.neR {β:Type} {f:Enc β} {q:Option Addr} {d E' j':Nat} {ys:List β} (h:Rw g w j E e p c xs) (k:Rw g w j' E' f q d ys) (ht:j≠j'):∀a,q=some a→blk p≠some a.block:=fun a ha hp=>ht (by rw [← h.tag _ hp,← k.tag a.block (by rw [ha];rfl)])
theorem Rw.stpG (h:Rw g w j E e p c xs) (hg:w.grownBy w' (blk p)) (u:Nat) (hT:j∈T):Stq ix T g (rt g w u) w w' :=
 ⟨hg.os,hg.tape,hg.output,hg.size,fun k hk _ h2=>hg.block k hk (fun e'=>h2 (fun h3=>h.nix e'.symm h3.2) (by rw [h.tag k e'.symm];exact hT)),fun _ hk=>AY hk⟩
theorem Rw.turned {ys:List α} {u:Nat} (h:Rw g w j E e p c xs) (ho:Go.V.Own w' 0 E e p c ys):Rw (rt g w u) w' j E e p c ys:=⟨ho,fun k hk=>(AY (h.lt hk)).trans (h.tag k hk),h.nx⟩
theorem Rw.app {B:Nat} {p':Option Addr} {c':Nat} {ys:List α} (h:Rw g w j E e p c xs) (ha:App w w' B E e p p' c' ys):Rw (rt g w j) w' j E e p' c' ys :=
 ⟨ha.own.base (Nat.zero_le _),fun k hk=>by
  have hn:=ha.new
  unfold BK at hn
  rcases hn with hn|hn
  ·rw [AY (h.lt (by rw [← hn];exact hk))];exact h.tag k (by rw [← hn];exact hk)
  ·exact CU (hn k hk),h.nx⟩
theorem Rw.appS {B:Nat} {p':Option Addr} {c':Nat} {ys:List α} (h:Rw g w j E e p c xs) (ha:App w w' B E e p p' c' ys) (hT:j∈T):Stq ix T g (rt g w j) w w' :=
 ⟨ha.grown.os,ha.grown.tape,ha.grown.output,ha.grown.size,fun k hk _ h2=>ha.grown.block k hk (fun e=>h2 (fun h3=>h.nix e.symm h3.2) (by rw [h.tag k e.symm];exact hT)),fun _ hk=>AY hk⟩
end Go.Proofs.YtkcolpfanmdmiaaGreatDoor
namespace Go.V
open Go.RowKit
variable {v : Value} {b : Nat}
theorem Q68 {bo:BinOp} (h:∀r,G P n ops dr l (E.put d (.int k (k.wrap r))) w K) (hbo:bo=.and∨bo=.or∨bo=.xor:=by (first|exact .inl rfl|exact .inr (.inl rfl)|exact .inr (.inr rfl))) (hx:E.look x=some (.int k i):=by exact rfl) (hy:E.look y=some (.int k j):=by exact rfl) (hd:Ah n d=true:=by exact rfl):G1 P n ops dr ⟨d,.binOp bo t x y t',ty,pos,af,g⟩ l E w K:=by
 have e:∃r,Op.intBits bo k i j=pure (.int k (k.wrap r)):=by rcases hbo with rfl|rfl|rfl <;> exact ⟨_,rfl⟩
 obtain ⟨r,e⟩:=e
 rcases hbo with rfl|rfl|rfl
 all_goals exact Zd _ hd (fun a ha w' _=>by simp [execOp,ha.eval hx,ha.eval hy,eqGuard,binOp,e]) (h r)
theorem Q119 (hx:E.look x=some (.int k i)) (hd:Ah n d=true) (h:∀r,G P n ops dr l (E.put d (.int k (k.wrap r))) w K):G1 P n ops dr ⟨d,.unOp .xor t x,ty,pos,af,g⟩ l E w K:=by
 have e:∃r,Op.unary .xor (.int k i)=pure (.int k (k.wrap r)):=⟨_,rfl⟩
 obtain ⟨r,e⟩:=e
 exact Zd _ hd (fun a ha w' _=>by simp [execOp,ha.eval hx,e]) (h r)
theorem Q38 {name:String} {f:FuncId} {rv:Value} {args:Array Operand} {tys:Array TypeId} {vs:List Value} {Φ:Value→World→Prop} (hm:(Go.method (P.types.size+Made.depth) t v name).run P w=.ok (f,rv) w) (hc:Ctr P f (rv :: vs) w Φ) (h:∀v w',Φ v w'→(writes dr.1 ⟨d,.call ⟨.invoke x name,args,tys⟩,ty,pos,af,g⟩=true∨Ext w w')∧G P n ops dr l (E.put d v) w' K) (hx:E.look x=some (.iface t v):=by exact rfl) (hargs:E.looks args.toList=some vs:=by exact rfl) (he:Am P dr.1 ⟨d,.call ⟨.invoke x name,args,tys⟩,ty,pos,af,g⟩=true:=by exact rfl) (hd:Ah n d=true:=by exact rfl):G1 P n ops dr ⟨d,.call ⟨.invoke x name,args,tys⟩,ty,pos,af,g⟩ l E w K:=by
 unfold Ctr at hc
 unfold G1
 unfold G at h
 intro a ha hw
 refine .inr ⟨he,hw,?_⟩
 have hm':args.map a.eval=vs.toArray:=by
  rw [← ha.evals hargs];apply Array.ext';simp
 unfold DZ Oper.wp
 have:(execOp a.eval ⟨d,.call ⟨.invoke x name,args,tys⟩,ty,pos,af,g⟩).run P w=.ok (.enter f (rv :: vs).toArray) w:=by
  have e1:#[rv]++vs.toArray=(rv :: vs).toArray:=by simp
  rw [← e1]
  have e2:(#[Value.iface t v]++vs.toArray).extract 1 (#[Value.iface t v]++vs.toArray).size=vs.toArray:=by
   apply Array.ext';simp
  simp only [execOp,resolve,invoke,hm',ha.eval hx,Sem.run_bind,Sem.run_pure,Result.andThen_ok]
  simp [callMethod,hm,run_program,BU hc.1]
 rw [this]
 refine Calls.mono hc.2 ?_
 rintro e w' ⟨v,rfl,hv⟩
 exact ⟨(h v w' hv).1.imp id Ext.toS,(h v w' hv).2 _ (ha.put _ _ (Be hd))⟩
theorem Q61 (h:G P n ops dr l (E.put d (.iface t v)) w K) (hu:∃D,P.underlying t=some D∧∀ms,D≠.interface ms) (hx:E.look x=some v:=by exact rfl) (hd:Ah n d=true:=by exact rfl):G1 P n ops dr ⟨d,.makeInterface t x,ty,pos,af,g⟩ l E w K :=
 Zd _ hd (fun a ha w' _=>by
  obtain ⟨D,h1,h2⟩:=hu
  cases D <;> first|(simp [execOp,Instr.makeInterface,run_underlying (P:=P) h1,ha.eval hx];done)|exact absurd rfl (h2 _)) h
theorem Q77 {dir:ChanDir} {e:TypeId} {inf:TypeInfo} (ht:P.underlying t=some (.chan dir e)) (hi:P.info? e=some inf) (h:∀w',w'.heap[w.heap.size]?=some (.chan m #[] false 0 0 false)→Ext w w'→w'.heap.size=w.heap.size+1→G P n ops dr l (E.put d (.chan (some w.heap.size))) w' K) (hb:inf.bytes≤24:=by decide) (hx:E.look x=some (.int .i64 (m:Int)):=by exact rfl) (hm:m≤1000:=by decide) (he:Am P dr.1 ⟨d,.makeChan t x,ty,pos,af,g⟩=true:=by exact rfl) (hd:Ah n d=true:=by exact rfl):G1 P n ops dr ⟨d,.makeChan t x,ty,pos,af,g⟩ l E w K:=by
 refine Zs _ (w.alloc (.chan m #[] false 0 0 false)) he hd (fun a ha=>?_) (.inr (Ext.alloc Ext.rfl' _).toS) (h _ (heap_alloc_new w _) (Ext.alloc Ext.rfl' _) (by simp))
 have h1:¬((m:Int)<0∨(m:Int) > IntKind.i64.max∨(inf.bytes:Int) * (m:Int) > 2 ^ 48 - 112):=by
  have e1:IntKind.i64.max=9223372036854775807:=rfl
  have e2:(inf.bytes:Int) * (m:Int)≤24 * 1000:=Int.mul_le_mul (by omega) (by omega) (by omega) (by omega)
  rw [e1]
  omega
 have h2:¬((m:Int)<0∨9223372036854775807<(m:Int)∨281474976710544<(inf.bytes:Int) * (m:Int)):=h1
 simp [execOp,Instr.makeChan,ha.eval hx,asInt,asIntOf,run_underlying (P:=P) ht,typeInfo,hi,newObj,Sem.run]
 exact fun e=>absurd e h2
theorem Q71 {dir:ChanDir} {e:TypeId} {ch:Nat} {cap:Nat} {s:Nat} {r:Nat} {buf:Array Value} {cl:Bool} (ht:P.underlying t=some (.chan dir e)) (hc:w.heap[ch]?=some (.chan cap buf cl s r false)) (h:G P n ops (dq,[]) l (E.put d (.int .i64 (buf.size:Int))) w K) (hx:E.look x=some (.chan (some ch)):=by exact rfl) (hd:Ah n d=true:=by exact rfl):G1 P n ops (dq,[]) ⟨d,.call ⟨.builtin .len,#[x],#[t]⟩,ty,pos,af,g⟩ l E w K :=
 Zd _ hd (fun a ha w' hw=>by
  have hc':=(Ej hw (by simp [Bi,ht])).blk hc
  simp [execOp,resolve,invoke,builtin,ha.eval hx,Builtin.len_,run_underlying (P:=P) ht,Sem.run_bind,getObj,Sem.run,hc',goInt]) h
variable {nn q r : Nat}
theorem QZ (a:Addr):a.add 0=a:=by simp [Addr.add]
theorem Q50 (hu:Au P t nn u sz) (h:G P n ops dr l (E.put d (.slice (some (adr p m)) nn nn)) w K) (hx:E.look x=some (.pointer (some (adr p m))):=by exact rfl) (hn:0<nn:=by decide) (hd:Ah n d=true:=by exact rfl):G1 P n ops dr ⟨d,.slice t x none none none,ty,pos,af,g⟩ l E w K :=
 Zd _ hd (fun a ha w' _=>by
  obtain ⟨hu,inf,hi,hs⟩:=hu
  have h0:nn≠0:=by omega
  simp [execOp,Instr.sliceAt,ha.eval hx,run_underlying (P:=P) hu,Instr.sureAddr,Instr.sliceBounds,sizeOf,typeInfo,hi,QZ]) h
theorem Q126 (hu:Au P t nn u sz) (hx:E.look x=some (.pointer (some (adr p m)))) (hy:E.look y=some (.int k i)) (hi:i=(q:Int)) (hd:Ah n d=true) (h:G P n ops dr l (E.put d (.slice (some (adr p (m+q * sz))) (nn - q) (nn - q))) w K) (hn:q<nn):G1 P n ops dr ⟨d,.slice t x (some y) none none,ty,pos,af,g⟩ l E w K :=
 Zd _ hd (fun a ha w' _=>by
  subst hi
  obtain ⟨hu,inf,hi,hs⟩:=hu
  have h0:nn≠q:=by omega
  have a2:(0:Int)≤q∧(q:Int)≤nn:=by omega
  simp [execOp,Instr.sliceAt,ha.eval hx,ha.eval hy,run_underlying (P:=P) hu,Instr.sureAddr,Instr.sliceBounds,Instr.sliceBound,asIntOf,a2,sizeOf,typeInfo,hi,h0,Gh,hs]
  intro hh;omega) h
theorem Q65 (hu:Au P t nn u sz) (h:G P n ops dr l (E.put d (.slice (some (adr p (m+q * sz))) (r - q) (nn - q))) w K) (hx:E.look x=some (.pointer (some (adr p m))):=by exact rfl) (hy:E.look y=some (.int k i):=by exact rfl) (hz:E.look z=some (.int k' j):=by exact rfl) (hi:i=(q:Int):=by exact rfl) (hj:j=(r:Int):=by exact rfl) (hq:q≤r:=by decide) (hr:r≤nn:=by decide) (hn:q<nn:=by decide) (hd:Ah n d=true:=by exact rfl):G1 P n ops dr ⟨d,.slice t x (some y) (some z) none,ty,pos,af,g⟩ l E w K :=
 Zd _ hd (fun a ha w' _=>by
  subst hi hj
  obtain ⟨hu,inf,hi,hs⟩:=hu
  have h0:nn≠q:=by omega
  have a1:(0:Int)≤r∧(r:Int)≤nn:=by omega
  have a2:(0:Int)≤q∧(q:Int)≤r:=by omega
  simp [execOp,Instr.sliceAt,ha.eval hx,ha.eval hy,ha.eval hz,run_underlying (P:=P) hu,Instr.sureAddr,Instr.sliceBounds,Instr.sliceBound,asIntOf,a1,a2,hq,hr,sizeOf,typeInfo,hi,h0,Gh,hs]) h
open Go.RowKit Go.Conc
variable {b : Frame}
theorem Nf {S:List Nat} {ef rd wr:Oper→Bool} {K:Act→World→Prop} {rest:List Nat} :
  ∀(m k:Nat) (l:List Oper) (a:Act) (w:World),l.length=m→(∀j,j<m→l[j]?=ops[k+j]?)→GA P S ops ef rd wr K l a w →
   ∃a' w',K a' w'∧Steps P (lone (b.at a (.inRegion ops (List.range' k m++rest) :: kk)) cs w) (lone (b.at a' (.inRegion ops rest :: kk)) cs w')
 | 0,k,l,a,w,hm,hl,h=>by
  obtain rfl:l=[]:=List.eq_nil_of_length_eq_zero hm
  exact ⟨a,w,h,by simpa using Steps.refl P _⟩
 | m+1,k,[],a,w,hm,hl,h=>by simp at hm
 | m+1,k,o :: l,a,w,hm,hl,h=>by
  have h0:ops[k]?=some o:=by simpa using (hl 0 (by omega)).symm
  have ih:=fun a w=>Nf (S:=S) (ef:=ef) (rd:=rd) (wr:=wr) (K:=K) (rest:=rest) m (k+1) l a w (by simpa using hm)
   (fun j hj=>by have:=hl (j+1) (by omega);simpa [Nat.add_assoc,Nat.add_comm 1 j] using this)
  simp only [List.range'_succ,List.cons_append]
  have hfin:∀a v,(b.at a (.inRegion ops (k :: (List.range' (k+1) m++rest)) :: kk)).finish v=b.at (a.put o.dst v) (.inRegion ops (List.range' (k+1) m++rest) :: kk):=by
   intro a v;rw [Frame.finish_at,h0];rfl
  have skip:Region.wanted o (yielded ops a.tmps)=false→GA P S ops ef rd wr K l (a.put o.dst undef) w →
    ∃a' w',K a' w'∧Steps P (lone (b.at a (.inRegion ops (k :: (List.range' (k+1) m++rest)) :: kk)) cs w) (lone (b.at a' (.inRegion ops rest :: kk)) cs w'):=fun hw hh=>by
   obtain ⟨a',w',hK,hs⟩:=ih _ w hh
   refine ⟨a',w',hK,.head ?_ hs⟩
   have:=step_op_skip (P:=P) (b:=b) (a:=a) (k:=kk) (cs:=cs) (w:=w) (ops:=ops) (i:=k) (rest:=List.range' (k+1) m++rest) (by simp [h0,hw])
   simpa [h0] using this
  simp only [GA] at h
  rcases h with ⟨v,hy,h⟩|⟨he,hw,h⟩
  ·rcases hy with ⟨hw,hv⟩|⟨hw,rfl⟩
   ·obtain ⟨a',w',hK,hs⟩:=ih _ w h
    refine ⟨a',w',hK,.head (step_lone_go ?_) hs⟩
    rw [stepG_op h0 hw,← hfin];simp [stepG.apply,hv w (.inr Bd.rfl')]
   ·exact skip hw h
  ·unfold DZ Oper.wp at h
   have hg:=stepG_op (P:=P) (b:=b) (k:=kk) (cs:=cs) (w:=w) (rest:=List.range' (k+1) m++rest) h0 hw
   generalize hr:(execOp a.eval o).run P w=r at h
   cases r with
   | ok x w1 =>
    cases x with
    | value v =>
     obtain ⟨a',w',hK,hs⟩:=ih _ _ h.2
     exact ⟨a',w',hK,.head (step_lone_go (by rw [hg,← hfin];simp [stepG.apply,hr])) hs⟩
    | skip =>
     obtain ⟨a',w',hK,hs⟩:=ih _ _ h.2
     exact ⟨a',w',hK,.head (step_lone_go (by rw [hg,← hfin];simp [stepG.apply,hr])) hs⟩
    | defer d =>
     obtain ⟨a',w',hK,hs⟩:=ih _ _ h.2
     refine ⟨a',w',hK,.head (step_lone_go ?_) hs⟩
     have:({ b.at a (.inRegion ops (k :: (List.range' (k+1) m++rest)) :: kk) with defers:=d :: a.defers }:Frame).finish undef =
       b.at ({ a with defers:=d :: a.defers }.put o.dst undef) (.inRegion ops (List.range' (k+1) m++rest) :: kk):=hfin { a with defers:=d :: a.defers } undef
     rw [hg];simp only [stepG.apply,Sem.runT_eq,hr,GStep.bare_after]
     exact congrArg (fun fr=>GStep.go { frame:=fr,callers:=cs,status:=.running,dying:=none } w1) this
    | enter f args =>
     obtain ⟨e,w2,fr,hR,hsteps,_,hleave⟩:=h (b.at a (.inRegion ops (k :: (List.range' (k+1) m++rest)) :: kk) :: cs)
     have henter:step P (lone (b.at a (.inRegion ops (k :: (List.range' (k+1) m++rest)) :: kk)) cs w) =
       .next (lone (Frame.enter P f args .normal) (b.at a (.inRegion ops (k :: (List.range' (k+1) m++rest)) :: kk) :: cs) w1) :=
      step_lone_go (by rw [hg];simp [stepG.apply,hr,Frame.at])
     cases e with
     | returned v =>
      obtain ⟨a',w',hK,hs⟩:=ih _ _ hR.2
      refine ⟨a',w',hK,.head henter (hsteps.trans (.head ?_ hs))⟩
      rw [← hfin];exact step_leave_returned hleave
     | panicked c=>exact hR.elim
     | outgrown=>obtain ⟨_,_,hh⟩:=hR;exact hh.elim
    | row row args =>
     obtain ⟨v,w2,hR,hsteps⟩:=h (b.at a (.inRegion ops (k :: (List.range' (k+1) m++rest)) :: kk)) cs
     have henter:step P (lone (b.at a (.inRegion ops (k :: (List.range' (k+1) m++rest)) :: kk)) cs w) =
       .next (lone (Frame.ofRow P row args .normal) (b.at a (.inRegion ops (k :: (List.range' (k+1) m++rest)) :: kk) :: cs) w1) :=
      step_lone_go (by rw [hg];simp [stepG.apply,hr,Frame.at])
     obtain ⟨a',w',hK,hs⟩:=ih _ _ hR.2
     refine ⟨a',w',hK,.head henter (hsteps.trans ?_)⟩
     rw [hfin];exact hs
    | _=>exact h.elim
   | halt x w'=>cases x <;> first|exact h.elim|(simp only [Oper.upon] at h;exact h.elim)
variable {a : Act}
theorem Fv {i:Nat} {rest:List Nat} {o:Oper} {cases:Array CommCase} {blocking:Bool} {shape:CommShape} {w':World} (ho:ops[i]?=some o) (hw:Region.wanted o (yielded ops a.tmps)=true)
  (hr:(execOp a.eval o).run P w=.ok (.comm cases blocking shape) w') :
  ∃es,stepG P true (Go.Conc.G (b.at a (.inRegion ops (i :: rest) :: kk)) cs) w=.comm (Go.Conc.G (b.at a (.inRegion ops (i :: rest) :: kk)) cs) cases blocking shape w' es:=by
 have hg:=stepG_op (P:=P) (b:=b) (k:=kk) (cs:=cs) (w:=w) (rest:=rest) ho hw
 by_cases hk:b.kind=.early
 ·unfold Go.Conc.G
  rw [hg]
  simp [stepG.apply,hr,Frame.at,hk,GStep.after]
 ·exact ⟨_,stepG_comm ho hw hk hr⟩
inductive Ik (P:Program) (E:Env) (w:World):SelectCase→Value→World→Prop
 | recv {x:Operand} {el:TypeId} {c cap s r:Nat} {buf:Array Value} {z v:Value} (hx:E.look x=some (.chan (some c))) (hc:w.heap[c]?=some (.chan cap buf false s r false)) (hb:0<buf.size) (hz:Ag P el z) (hv:buf.getD 0 undef=v) :
  Ik P E w ⟨x,none,el⟩ (.tuple #[.int .i64 0,.bool true,v]) (w.setChan c cap (buf.extract 1 buf.size) false s (r+1) false)
 | none {x:Operand} {el:TypeId} {c cap s r:Nat} {z:Value} (hx:E.look x=some (.chan (some c))) (hc:w.heap[c]?=some (.chan cap #[] false s r false)) (hz:Ag P el z) :
  Ik P E w ⟨x,none,el⟩ (.tuple #[.int .i64 (-1),.bool false,z]) w
 | send {x y:Operand} {el:TypeId} {c cap s r:Nat} {buf:Array Value} {z v:Value} (hx:E.look x=some (.chan (some c))) (hy:E.look y=some v) (hc:w.heap[c]?=some (.chan cap buf false s r false)) (hb:buf.size<cap) (hz:Ag P el z) :
  Ik P E w ⟨x,some y,el⟩ (.tuple #[.int .i64 0,.bool false]) (w.setChan c cap (buf.push v) false (s+1) r false)
theorem res_r (c:Nat) (z v:Value) (ok:Bool):commResult #[rcase c z] .select ((0:Nat):Int) v ok=.tuple #[.int .i64 0,.bool ok,v]:=by simp [commResult,rcase,goInt]
theorem res_d (c:Nat) (z:Value):commResult #[rcase c z] .select (-1) undef false=.tuple #[.int .i64 (-1),.bool false,z]:=by simp [commResult,rcase,goInt]
theorem res_s (c:Nat) (z v:Value):commResult #[scase c v z] .select ((0:Nat):Int) undef false=.tuple #[.int .i64 0,.bool false]:=by simp [commResult,scase,goInt]
theorem UI {i:Nat} {rest:List Nat} {d:Option Nat} {ty:TypeId} {pos:String} {af:Array Edge} {sc:SelectCase} {v:Value} {w':World} (ho:ops[i]?=some ⟨d,.select #[sc] false,ty,pos,af,none⟩) (ha:Holds n E a) (h:Ik P E w sc v w') :
  step P (lone (b.at a (.inRegion ops (i :: rest) :: kk)) cs w)=.next (lone (b.at (a.put d v) (.inRegion ops rest :: kk)) cs w'):=by
 have hfin:∀v,(b.at a (.inRegion ops (i :: rest) :: kk)).finish v=b.at (a.put d v) (.inRegion ops rest :: kk):=by
  intro v;rw [Frame.finish_at,ho];rfl
 cases h with
 | @recv x el c cap s r buf z v hx hc hb hz hv =>
  obtain ⟨es,he⟩:=Fv (P:=P) (a:=a) (b:=b) (kk:=kk) (cs:=cs) (w:=w) (rest:=rest) (cases:=#[rcase c z]) (blocking:=false) (shape:=.select) (w':=w) ho rfl (by simp [execOp,rcase,ha.eval hx,CW hz w])
  have:=step_lone_sel_recv_buf (k:=0) he rfl (fun m c' hm hc'=>by cases m with|zero=>exact absurd rfl hm|succ m=>simp at hc') hc hb
  refine Eq.trans this ?_
  rw [hfin,hv,res_r]
  rfl
 | @none x el c cap s r z hx hc hz =>
  obtain ⟨es,he⟩:=Fv (P:=P) (a:=a) (b:=b) (kk:=kk) (cs:=cs) (w:=w) (rest:=rest) (cases:=#[rcase c z]) (blocking:=false) (shape:=.select) (w':=w) ho rfl (by simp [execOp,rcase,ha.eval hx,CW hz w])
  have:=step_lone_sel_default he (fun cc hcc=>by simp at hcc;subst hcc;exact noWay_recv hc)
  refine Eq.trans this ?_
  rw [hfin,res_d]
  rfl
 | @send x y el c cap s r buf z v hx hy hc hb hz =>
  obtain ⟨es,he⟩:=Fv (P:=P) (a:=a) (b:=b) (kk:=kk) (cs:=cs) (w:=w) (rest:=rest) (cases:=#[scase c v z]) (blocking:=false) (shape:=.select) (w':=w) ho rfl (by simp [execOp,scase,ha.eval hx,ha.eval hy,CW hz w])
  have:=step_lone_sel_send_room (k:=0) he rfl (fun m c' hm hc'=>by cases m with|zero=>exact absurd rfl hm|succ m=>simp at hc') hc hb
  refine Eq.trans this ?_
  rw [hfin,res_s]
  rfl
theorem ZV {id:Nat} {l:List Oper} (k:Nat) {d:Option Nat} {ty:TypeId} {pos:String} {af:Array Edge} {sc:SelectCase} (hk:l[k]?=some ⟨d,.select #[sc] false,ty,pos,af,none⟩) (hd:Ah n d=true)
  (h:Go.V.G P n l.toArray (0,[]) (l.take k) E w (fun E1 w1=>∃v w2,Ik P E1 w1 sc v w2∧Go.V.G P n l.toArray (0,[]) (l.drop (k+1)) (E1.put d v) w2 (Post n Q .normal))):W P n (.region id l.toArray false) Q E w:=by
 unfold W
 unfold Go.V.G at h
 intro a ha b kk cs
 have hlt:=(List.getElem?_eq_some_iff.1 hk).1
 have e1:List.range l.toArray.size=List.range' 0 k++(k :: List.range' (k+1) (l.length - (k+1))):=by
  rw [List.range_eq_range',← List.range'_succ]
  have:=List.range'_append_1 (s:=0) (m:=k) (n:=l.length - (k+1)+1)
  rw [Nat.zero_add] at this
  rw [this]
  congr 1
  simp;omega
 obtain ⟨a1,w1,⟨E1,hE1,v,w2,hs,hG⟩,st1⟩:=Nf (P:=P) (ops:=l.toArray) (b:=b) (kk:=kk) (cs:=cs) (S:=[]) (ef:=Am P 0) (rd:=Bi P) (wr:=writes 0) (rest:=k :: List.range' (k+1) (l.length - (k+1))) k 0 (l.take k) a w (by simp;omega)
  (fun j hj=>by simp [hj]) (h a ha)
 have st2:=UI (P:=P) (a:=a1) (b:=b) (kk:=kk) (cs:=cs) (ops:=l.toArray) (rest:=List.range' (k+1) (l.length - (k+1))) (by simpa using hk) hE1 hs
 have h3:=OO (P:=P) (S:=[]) (ops:=l.toArray) (ef:=Am P 0) (rd:=Bi P) (wr:=writes 0) (Q:=Q) (K:=fun a' w'=>∃E',Holds n E' a'∧Post n Q .normal E' w')
  (fun a _ ⟨_,hE,hp⟩=>by unfold Post at hp;exact hp a hE) (l.length - (k+1)) (k+1) (l.drop (k+1)) _ w2 (by simp) (by simp [List.getElem?_drop]) (hG _ (hE1.put _ _ (Be hd)))
 obtain ⟨e,a',w',hq,harr⟩:=wp_ops _ _ w2 h3 b kk cs
 refine ⟨e,a',w',hq,.of_steps (.head step_region ?_) harr⟩
 rw [e1]
 exact st1.trans (.one st2)
abbrev Sec:={ l:List UInt8 // l.length=64 }
theorem Er (l:List UInt8):∀v∈l.map (fun b=>Value.int .u8 (b.toNat:Int)),v.oneCell'=true:=by
 intro v hv;rw [List.mem_map] at hv;obtain ⟨b,_,rfl⟩:=hv;rfl
def BZ:Enc Sec:=⟨64,fun s=>s.1.map (fun b=>.int .u8 (b.toNat:Int)),fun s=>by simp [s.2],fun s=>Er s.1,by decide⟩
def eWr:Enc (Int × Sec):=⟨65,fun x=>.int .i64 x.1 :: x.2.1.map (fun b=>.int .u8 (b.toNat:Int)),fun x=>by simp [x.2.2],fun x v hv=>by
 rcases List.mem_cons.1 hv with rfl|hv
 ·rfl
 ·exact Er x.2.1 v hv,by decide⟩
def Cw:Sec:=⟨List.replicate 64 0,by simp⟩
theorem Sl.win {H:Array Obj} {b t m:Nat} {cs:List Value} {bs:List UInt8} (hb:Blk H b t cs) (hc:∀(i:Nat) x,bs[i]?=some x→cs[m+i]?=some (.int .u8 (x.toNat:Int))) (hl:bs.length≤maxLen):Sl H Ai (some (adr (bx b) m)) bs.length bs :=
 ⟨⟨Nat.le_refl _,hl,fun h=>(by cases h),fun a ha _=>(by injection ha with ha;rw [← ha];rfl)⟩,fun i x hi k v hv=>by
  have hk:k=0:=by have:=AR hv;simp [Ai] at this;omega
  subst hk
  have hv':Value.int .u8 (x.toNat:Int)=v:=by simpa [Ai] using hv
  have e1:adr (some (adr (bx b) m)) (i * Ai.sz+0)=adr (bx b) (m+i):=by simp [adr,Ai]
  rw [e1,← hv']
  exact hb.cell (hc i x hi)⟩
end Go.V
namespace Go.Proofs.YtkcolpfanmdmiaaGreatDoor
open Go.V
attribute [local irreducible] Blk Own hcell Ao Ab PlainT Ak Ad Ap Aa Ag EqT Au
theorem T.zero139:Ag Tryz.prog 139 (.agg (BZ.enc Cw).toArray):=Ag.of (by kernel_rfl)
theorem T.zero141:Ag Tryz.prog 141 (.agg (eWr.enc (0,Cw)).toArray):=Ag.of (by kernel_rfl)
theorem Xr (n:Int) (w:World):(Instr.build 141 [(0,.int .i64 n)].toArray).run Tryz.prog w=.ok (.agg (eWr.enc (n,Cw)).toArray) w:=by kernel_rfl
theorem Tx (p:Option Addr) (n c:Nat) (w:World):(Instr.build 102 [(0,.slice p n c),(2,.int .i64 (-1))].toArray).run Tryz.prog w=.ok (.agg #[.slice p n c,.slice none 0 0,.int .i64 (-1)]) w:=by kernel_rfl
def AZ (g:Nat→Nat) (w:World) (d:Nat) (ds:List Sec) (ps:List (Int × Sec)):Prop :=
 ∃pd cd pp cp,Bk g w 1 d 102 [.slice pd ds.length cd,.slice pp ps.length cp,.int .i64 (-1)]∧Rw g w 1 139 BZ pd cd ds∧Rw g w 1 141 eWr pp cp ps
theorem AZ.stp {ix:Nat} {T:List Nat} {g g':Nat→Nat} {w w':World} {d:Nat} {ds:List Sec} {ps:List (Int × Sec)} (h:AZ g w d ds ps) (s:Stq ix T g g' w w') (hj:1 ∉ T):AZ g' w' d ds ps:=by
 obtain ⟨pd,cd,pp,cp,h1,h2,h3⟩:=h
 exact ⟨pd,cd,pp,cp,h1.stp s hj,h2.stp s hj,h3.stp s hj⟩
theorem AZ.ext {g:Nat→Nat} {w w':World} {d:Nat} {ds:List Sec} {ps:List (Int × Sec)} (h:AZ g w d ds ps) (hx:Ext w w') (u:Nat):AZ (rt g w u) w' d ds ps:=by
 obtain ⟨pd,cd,pp,cp,h1,h2,h3⟩:=h
 exact ⟨pd,cd,pp,cp,h1.ext hx u,h2.ext hx u,h3.ext hx u⟩
theorem TR {n:Nat} {g:Nat→Nat} {w:World} (h1:1≤n) (h2:n≤65536) :
  Ctr Tryz.prog 32 [.int .i64 (n:Int)] w (fun v w'=>∃d,v=.tuple #[.pointer (some (adr (bx d) 0)),.int .i64 0]∧AZ (rt g w 1) w' d (List.replicate n Cw) []∧Ext w w'):=by
 refine Ac Tryz.func32 Tryz.ntmps32 rfl rfl rfl ?_
 repeat' (first|refine R1 ?_|refine R2 ?_|(apply Za;exact rfl;all_goals (intro h;try (exfalso;omega)))|((fail_if_success (refine Q1 ?_));apply Zb;exact rfl;exact rfl;all_goals (intro h;try (exfalso;omega)))|fail)
 all_goals try (exfalso;omega)
 refine Q1 ?_
 refine Q116 BZ Cw T.s99 T.zero139 ?_
 intro p1 w1 ho1 hx1 hz1
 have hnn:((n:Int).toNat)=n:=by omega
 rw [hnn] at ho1 ⊢
 repeat' (refine Q1 ?_;(refine Q20 (.agg #[.slice p1 (List.replicate n Cw).length n,.slice none 0 0,.int .i64 (-1)]) (Tx _ _ _) ?_))
 refine Q1 ?_;refine Q8 ?_;intro a2 w2 ha2 hA2 hx2 hs2
 replace hA2:Blk w2.heap a2 102 [.slice p1 (List.replicate n Cw).length n,.slice none 0 0,.int .i64 (-1)]:=hA2
 repeat' (first|refine R1 ?_|refine R2 ?_|fail)
 refine Kr Tryz.results32 ?_
 have hz:=hx1.size
 exact ⟨a2,rfl,⟨p1,n,none,0,Bk.new hA2 (by omega) (by unfold ixT;decide),Rw.new (ho1.ext hx2) (Nat.le_refl _) (by unfold ixT;decide),Rw.nil (by unfold ixT;decide)⟩,hx1.trans hx2⟩
theorem NC {g:Nat→Nat} {w:World} {d:Nat} {ds:List Sec} {ps:List (Int × Sec)} {at_ n:Nat} (hD:AZ g w d ds ps) (hn:1≤n) (ha:at_+n≤ds.length) :
  Ctr Tryz.prog 169 [.pointer (some (adr (bx d) 0)),.int .i64 (at_:Int),.int .i64 (n:Int)] w (fun v w'=>v=.bool true∧w=w'):=by
 obtain ⟨pd,cd,pp,cp,h1,h2,h3⟩:=hD
 have hb:=h1.blk
 have hl:=h2.sl.bound
 refine Ac Tryz.func169 Tryz.ntmps169 rfl rfl rfl ?_
 repeat' (first|refine R1 ?_|(refine Q1 ?_;first|(refine Q2 (hu:=T.f102_0) ?_)|(refine Q3 (hu:=T.p99) ?_)|(refine Q6 (hu:=T.s99) ?_))|refine R2 ?_|((fail_if_success (refine Q1 ?_));apply Zb;exact rfl;exact rfl;all_goals (intro h;try (exfalso;omega)))|fail)
 all_goals try (exfalso;omega)
 refine Kr Tryz.results169 ?_
 exact ⟨by simp [Cj];omega,rfl⟩
theorem Ha {g:Nat→Nat} {w:World} {d:Nat} {ds:List Sec} {ps:List (Int × Sec)} (hD:AZ g w d ds ps) :
  Ctr Tryz.prog 170 [.pointer (some (adr (bx d) 0))] w (fun v w'=>v=.bool true∧w=w'):=by
 obtain ⟨pd,cd,pp,cp,h1,h2,h3⟩:=hD
 have hb:=h1.blk
 refine Ac Tryz.func170 Tryz.ntmps170 rfl rfl rfl ?_
 repeat' (first|refine R1 ?_|(refine Q1 ?_;first|(refine Q2 (hu:=T.f102_2) ?_)|(refine Q3 (hu:=T.p3) ?_))|refine R2 ?_|fail)
 refine Kr Tryz.results170 ?_
 exact ⟨rfl,rfl⟩
structure SlJ (g:Nat→Nat) (w:World) (p:Option Addr) (c:Nat) (bs:List UInt8):Prop where
 sl:Sl w.heap Ai p c bs
 tag:∀a,p=some a→a.block<w.heap.size∧g a.block≠1∧¬IxB w a.block
theorem SlJ.stp {ix:Nat} {g g':Nat→Nat} {w w':World} {p:Option Addr} {c:Nat} {bs:List UInt8} (h:SlJ g w p c bs) (s:Stq ix [1] g g' w w'):SlJ g' w' p c bs:=by
 have hb:∀a,p=some a→w'.heap[a.block]?=w.heap[a.block]?:=fun a ha=>by
  obtain ⟨h1,h2,h3⟩:=h.tag a ha
  exact s.block _ h1 (fun e=>absurd e.2 h3) (fun _=>by simp;exact h2)
 refine ⟨⟨h.sl.ok,fun i x hi k v hv=>?_⟩,fun a ha=>?_⟩
 ·have hc:=h.sl.cell i x hi k v hv
  cases p with
  | none=>have:=h.sl.ok.nul rfl;have:=h.sl.ok.le;have:=AR hi;omega
  | some a=>exact (BI (a:=adr (some a) _) (hb a rfl)).trans hc
 ·obtain ⟨h1,h2,h3⟩:=h.tag a ha
  exact ⟨Nat.lt_of_lt_of_le h1 s.size,by rw [s.tags _ h1];exact h2,fun e=>h3 (by unfold IxB at *;rw [← hb a ha];exact e)⟩
theorem WM {n:Int} {s:Sec} {vs:List Value} {bs:List UInt8} (hv:vs=bs.map (fun b=>Value.int .u8 (b.toNat:Int))) (hl:bs.length≤64):∃s':Sec,(eWr.enc (n,s)).take 1++vs++(eWr.enc (n,s)).drop (1+vs.length)=eWr.enc (n,s'):=by
 subst hv
 refine ⟨⟨bs++s.1.drop bs.length,by have:=s.2;simp [this];omega⟩,?_⟩
 simp [eWr,List.map_drop,Nat.add_comm 1]
theorem SlJ.drop {g:Nat→Nat} {w:World} {p:Option Addr} {c:Nat} {bs:List UInt8} (h:SlJ g w p c bs) {m:Nat} (hm:m≤bs.length):SlJ g w (AP p c m 1) (c - m) (bs.drop m) :=
 ⟨h.sl.drop (Nat.le_trans hm h.sl.ok.le),fun a ha=>by
  unfold AP at ha
  split at ha
  ·exact h.tag a ha
  ·cases p with
   | none=>cases ha
   | some b=>simp only [Option.map_some,Option.some.injEq] at ha;subst ha;have:=h.tag b rfl;unfold Addr.add;split <;> exact this⟩
theorem JN {ix:Nat} {g:Nat→Nat} {w:World} {d:Nat} {ds:List Sec} {ps:List (Int × Sec)} {at_ n:Nat} {p:Option Addr} {c:Nat} {bs:List UInt8} (hD:AZ g w d ds ps) (hb:SlJ g w p c bs) (hl:1≤bs.length) (hm:bs.length≤1000000)
  (hn:n=(bs.length+63) / 64) (ha:at_+n≤ds.length) (hds:ds.length≤65536) (hp:ps.length≤100000) (hps:∀x∈ps,0≤x.1∧x.1<ds.length) :
  Ctr Tryz.prog 105 [.pointer (some (adr (bx d) 0)),.int .i64 (at_:Int),.slice p bs.length c] w (fun v w'=>v=.int .i64 0∧∃g' ps',Stq ix [1] g g' w w'∧AZ g' w' d ds ps'∧ps'.length≤ps.length+n∧∀x∈ps',0≤x.1∧x.1<ds.length):=by
 have hq:IntKind.i64.wrap (Int.tdiv ((bs.length:Int)+64 - 1) 64)=(n:Int):=by
  rw [Int.tdiv_eq_ediv_of_nonneg (by omega)];simp only [IntKind.wrap_i64];omega
 refine Ac Tryz.func105 Tryz.ntmps105 rfl rfl rfl ?_
 repeat' (first|refine R1 ?_|(refine Q1 ?_;first|(refine Q55 (r:=(n:Int)) (hr:=hq) ?_)|(refine Q4 (f:=169) (hc:=NC hD (by omega) ha) ?_;rintro _ _ ⟨rfl,rfl⟩;refine Kc ?_)|(refine Q4 (f:=170) (hc:=Ha hD) ?_;rintro _ _ ⟨rfl,rfl⟩;refine Kc ?_)|(refine Q6 (hu:=T.s40) ?_))|refine R2 ?_|fail)
 refine Zh (ι:=Nat × Option Addr × Nat × List UInt8) (fun y=>[(0,.pointer (some (adr (bx d) 0))),(1,.int .i64 ((at_+y.1:Nat):Int)),(2,.slice y.2.1 y.2.2.2.length y.2.2.1)])
  (fun y w'=>∃g' ps',Stq ix [1] g g' w w'∧AZ g' w' d ds ps'∧SlJ g' w' y.2.1 y.2.2.1 y.2.2.2∧y.1+(y.2.2.2.length+63) / 64≤n∧ps'.length≤ps.length+y.1∧(∀x∈ps',0≤x.1∧x.1<ds.length)∧y.2.2.2.length≤bs.length) (fun y=>y.2.2.2.length) (0,p,c,bs) ⟨rfl,rfl,rfl,trivial⟩
  ⟨g,ps,Stq.rfl',hD,hb,by simp only;omega,by omega,hps,Nat.le_refl _⟩ ?_
 rintro ⟨j,q,e,rest⟩ w1 ⟨g1,ps1,hS1,hD1,hb1,hj,hpl,hpx,hrl⟩
 simp only at hb1 hj hpl hrl
 by_cases hr:0<rest.length
 ·obtain ⟨pd,cd,pp,cp,h1,h2,h3⟩:=hD1
  repeat' (first|refine R1 ?_|(refine Q1 ?_;first|(refine Q20 (.agg (eWr.enc (((at_+j:Nat):Int),Cw)).toArray) (Xr _) ?_)|(refine Q6 (hu:=T.s40) ?_))|refine R2 ?_|(apply Za;exact rfl;all_goals (intro h;try (exfalso;omega)))|fail)
  all_goals try (exfalso;simp only at h;omega)
  refine Q1 ?_;refine Q7 T.zero141 ?_;intro a7 w3 ha7 hA7 hx3 hs3
  skip
  refine Q1 ?_;refine Q5 T.z141 hA7 ?_;intro w4 hA7 hg4 hs4
  replace hA7:Blk w4.heap a7 141 (eWr.enc (((at_+j:Nat):Int),Cw)):=hA7
  have hx4:Ext w1 w4:=hx3.own hg4 (fun k hk=>by injection hk;omega)
  obtain ⟨vs,hvs⟩:∃vs,(rest.take 64).map (fun b=>Value.int .u8 (b.toNat:Int))=vs:=⟨_,rfl⟩
  have hvl:vs.length=min rest.length 64:=by rw [← hvs];simp;omega
  have hb4:Sl w4.heap Ai q e rest:=hb1.sl.ext hx4
  have hsrc:∀(i:Nat) v,vs[i]?=some v→hcell w4.heap (adr q i)=some v:=fun i v hv=>by
   rw [← hvs,List.getElem?_map] at hv
   obtain ⟨x,hx,rfl⟩:=Option.map_eq_some_iff.1 hv
   rw [List.getElem?_take] at hx
   split at hx
   ·have:=hb4.cell i x hx 0 _ rfl
    simpa [Ai] using this
   ·cases hx
  obtain ⟨s',hs'⟩:=WM (n:=((at_+j:Nat):Int)) (s:=Cw) (bs:=rest.take 64) hvs.symm (by simp;omega)
  repeat' (first|refine R1 ?_|(refine Q1 ?_;first|refine Q50 T.ar139 ?_|(refine Q60 vs T.s40 hA7 hsrc (gb:=a7) (o:=1) (hq:=(fun _=>hb1.sl.ok.at hr)) (hn:=by (rw [hvl,Nat.mul_one])) (hfit:=by (rw [hvl];show 1+_≤65;omega)) (h1:=(by rw [← hvs];exact Er _)) ?_;intro w5 hA5 hg5 hz5)|(refine Q2 (hu:=T.f141_1) ?_))|fail)
  rw [hs'] at hA5
  have hx5:Ext w1 w5:=hx4.own hg5 (fun k hk=>by injection hk;omega)
  have hx5':Ext w1 w5.drew:=Ext.drew hx5
  refine Zl 1 [] (.node [0,1,2,3,4] (.alt 5 (.leaf [6,7,8,9,10]) .stop)) mixed (by decide +kernel) ?_
  have hb5:=(h1.blk).ext hx5'
  have hA5':Blk w5.drew.heap a7 141 (eWr.enc (((at_+j:Nat):Int),s')):=hA5
  repeat' (first|refine R1 ?_|(refine Q1 ?_;first|(refine Q11 T.a141 (hb:=hA5') (hl:=eWr.len _) ?_)|(refine Q2 (hu:=T.f102_1) ?_)|(refine Q3 (hu:=T.p100) ?_))|(refine Zj ?_)|(refine Zp ?_)|(apply Zv)|refine R2 ?_|(exact Zq)|fail)
  all_goals
   refine Q1 ?_
   refine Q12 eWr (((at_+j:Nat):Int),s') T.s100 ?_
   intro p6 w6 hp6 hs6 _ hx6 hz6
   have hx16:Ext w1 w6:=hx5'.trans hx6
   have hR6:=h3.ext hx16 1
   have hB6:=h1.ext hx16 1
   have hE6:=h2.ext hx16 1
   repeat' (refine Q1 ?_;first|refine Q21 ?_|(refine Q16 T.s100 hR6.own hs6 (hB:=Nat.zero_le _) ?_;intro p7 c7 w7 ha7')|(refine Q2 (hu:=T.f102_1) ?_))
   have hd7:blk pp≠some d:=hR6.neB hB6 (by decide)
   have hB7:=hB6.turn ha7'.grown hd7 1
   have hR7:=hR6.app ha7'
   have hE7:=hE6.turn ha7'.grown (fun k hk e=>(hR6.neT hE6 (by decide)) k hk e) 1
   have hS6:Stq ix [1] g1 (rt g1 w1 1) w1 w6:=Stq.of_ext hx16 1
   have hS7:Stq ix [1] (rt g1 w1 1) (rt (rt g1 w1 1) w6 1) w6 w7:=hR6.appS ha7' (by decide)
   have hb7:=hB7.blk
   refine Q1 ?_;refine Q5 T.z100 hb7 ?_;intro w8 hb8 hg8 hs8
   replace hb8:Blk w8.heap d 102 [.slice pd ds.length cd,.slice p7 (ps1++[(((at_+j:Nat):Int),s')]).length c7,.int .i64 (-1)]:=hb8
   have hS8:=hB7.stpG (T:=[1]) (ix:=ix) hg8 1 (by decide)
   have hS18:=(hS6.trans hS7).trans hS8
   have hb8':=hb1.stp hS18
   have hB8:=hB7.turned (u:=1) hb8
   have hR8:=hR7.turn hg8 (fun k hk e=>hR7.neB hB7 (by decide) (by rw [hk,e])) 1
   have hE8:=hE7.turn hg8 (fun k hk e=>hE7.neB hB7 (by decide) (by rw [hk,e])) 1
   have hmin:min rest.length 64≤rest.length:=Nat.min_le_left _ _
   have hok8:=hb8'.sl.ok
   repeat' (first|refine R1 ?_|(refine Q1 ?_;(refine Q18 T.s40 hok8 (q:=min rest.length 64) (hq:=hmin) ?_))|refine R2 ?_|fail)
   have hdl:(rest.drop (min rest.length 64)).length=rest.length - min rest.length 64:=List.length_drop
   refine Zc (j+1,AP q e (min rest.length 64) 1,e - min rest.length 64,rest.drop (min rest.length 64)) ⟨rfl,(by simp only [];rfl),(by simp only [hdl];rfl),trivial⟩ ⟨_,_,hS1.trans hS18,⟨pd,cd,p7,c7,hB8,hE8,hR8⟩,hb8'.drop hmin,by simp only [hdl];omega,by simp only [List.length_append,List.length_singleton];omega,?_,by simp only [hdl];omega⟩ (by simp only [hdl];omega)
   intro x hx
   rcases List.mem_append.1 hx with hx|hx
   ·exact hpx x hx
   ·simp only [List.mem_singleton] at hx;subst hx;simp only;omega
 ·repeat' (first|refine R1 ?_|(refine Q1 ?_;(refine Q6 (hu:=T.s40) ?_))|refine R2 ?_|(apply Za;exact rfl;all_goals (intro h;try (exfalso;omega)))|fail)
  all_goals try (exfalso;simp only at h;omega)
  refine Kr Tryz.results105 ?_
  exact ⟨rfl,g1,ps1,hS1,hD1,by omega,hpx⟩
end Go.Proofs.YtkcolpfanmdmiaaGreatDoor
namespace Go.V
theorem Pm {α:Type} (e:Enc α) (xs:List α) (i:Nat) (hi:i≤xs.length):(xs.flatMap e.enc).take (i * e.sz)=(xs.take i).flatMap e.enc:=by
 have h:xs.flatMap e.enc=(xs.take i).flatMap e.enc++(xs.drop i).flatMap e.enc:=by rw [← List.flatMap_append,List.take_append_drop]
 rw [h,List.take_left' (by rw [Az,List.length_take,Nat.min_eq_left hi])]
theorem Pk {α:Type} (e:Enc α) (xs:List α) (i:Nat) (hi:i≤xs.length):(xs.flatMap e.enc).drop (i * e.sz)=(xs.drop i).flatMap e.enc:=by
 have h:xs.flatMap e.enc=(xs.take i).flatMap e.enc++(xs.drop i).flatMap e.enc:=by rw [← List.flatMap_append,List.take_append_drop]
 rw [h,List.drop_left' (by rw [Az,List.length_take,Nat.min_eq_left hi])]
variable {v : Value}
theorem Q128 {α:Type} {e:Enc α} {B:Nat} {T:Nat} {xs:List α} {q:Nat} (el':α) (hsz:Ad P t sz) (hx:E.look x=some (.pointer (some (adr p (q * sz))))) (hy:E.look y=some v) (hown:Go.V.Own w B T e p c xs) (he':e.sz=sz) (hvs:v.cells.toList=e.enc el') (he:Am P dr.1 ⟨d,.store t x y,ty,pos,af,g⟩=true) (hw:writes dr.1 ⟨d,.store t x y,ty,pos,af,g⟩=true) (hd:Ah n d=true) (h:∀w',Go.V.Own w' B T e p c (xs.set q el')→w.grownBy w' (blk p)→w'.heap.size=w.heap.size→G P n ops dr l (E.put d undef) w' K) (hq:q<xs.length):G1 P n ops dr ⟨d,.store t x y,ty,pos,af,g⟩ l E w K:=by
 subst he'
 obtain ⟨gb,cur,rfl,hgb,hA,hcl,hcm,hnc,htk⟩:=hown.toBlk (hown.some_of_pos (by omega))
 have hq1:(q+1) * e.sz≤xs.length * e.sz:=Nat.mul_le_mul_right _ hq
 have hq2:xs.length * e.sz≤c * e.sz:=Nat.mul_le_mul_right _ hnc
 have hq3:(q+1) * e.sz=q * e.sz+e.sz:=by rw [Nat.add_mul,Nat.one_mul]
 refine ZJ hsz hx hy hA hvs (e.len el') (by omega) (e.one el') he (.inl hw) hd (fun w' hB hg hs=>h w' ?_ hg hs)
 refine Own.ofBlk hgb hB ?_ hcm (by simpa using hnc) ?_
 ·simp only [List.length_append,List.length_take,List.length_drop,e.len];omega
 ·rw [List.length_set]
  have h1:(cur.take (q * e.sz))=(xs.take q).flatMap e.enc:=by
   rw [← Pm e xs q (by omega),← htk,List.take_take];congr 1;omega
  have h2:(cur.drop (q * e.sz+e.sz)).take (xs.length * e.sz - (q * e.sz+e.sz))=(xs.drop (q+1)).flatMap e.enc:=by
   rw [← Pk e xs (q+1) (by omega),← htk,List.drop_take,hq3]
  have hl1:(cur.take (q * e.sz)++e.enc el').length=q * e.sz+e.sz:=by rw [List.length_append,List.length_take,e.len];omega
  rw [List.take_append,List.take_of_length_le (by rw [hl1];omega),hl1,h2,h1]
  rw [List.set_eq_take_append_cons_drop,if_pos hq,List.flatMap_append,List.flatMap_cons,List.append_assoc]
theorem Blk.all {H:Array Obj} {b t m:Nat} {l0 l:List Value} (h:Blk H b t (l0.take 0++l++l0.drop m)) (hm:l0.length≤m):Blk H b t l:=by
 rw [List.take_zero,List.nil_append,List.drop_eq_nil_of_le hm,List.append_nil] at h;exact h
theorem XM (x:Int × Sec):((eWr.enc x).drop 1).take 64=BZ.enc x.2:=by
 simp only [eWr,BZ,List.drop_succ_cons,List.drop_zero]
 exact List.take_of_length_le (by simp [x.2.2])
end Go.V
namespace Go.Proofs.YtkcolpfanmdmiaaGreatDoor
open Go.V
attribute [local irreducible] Blk Own hcell Ao Ab PlainT Ak Ad Ap Aa Ag EqT Au
theorem Im {d:Nat} {w:World} :
  Ctr Tryz.prog 53 [.pointer (some (adr (bx d) 0))] w (fun v w'=>∃b,v=.func (.func 79) #[] #[.pointer (some (adr (bx b) 0))]∧b=w.heap.size∧Blk w'.heap b 68 [.pointer (some (adr (bx d) 0))]∧Ext w w'∧w'.heap.size=w.heap.size+1):=by
 refine Ac Tryz.func53 Tryz.ntmps53 rfl rfl rfl ?_
 repeat' (refine R1 ?_)
 refine Q1 ?_;refine Q8 ?_;intro a1 w1 ha1 hA1 hx1 hs1
 replace hA1:Blk w1.heap a1 68 [.pointer (some (adr (bx d) 0))]:=hA1
 repeat' (first|refine R1 ?_|refine R2 ?_|fail)
 refine Kr Tryz.results53 ?_
 exact ⟨a1,rfl,ha1,hA1,hx1,hs1⟩
theorem GN {ps:List (Int × Sec)} {pp:Option Addr} {cp l b0 d:Nat} {x0 x2:Value} {J:Nat→World→Prop} {w:World} (hB0:Blk w.heap b0 68 [.pointer (some (adr (bx d) 0))]) (hBd:Blk w.heap d 102 [x0,.slice pp ps.length cp,x2])
  (hread:∀k w',J k w'→Sl w'.heap eWr pp cp ps) (hY:∀(k:Nat) x w' w3,ps[k]?=some x→J k w'→Ext w' w3→YieldAt Fence.wide 0 Tryz.prog l [Value.int .i64 (k:Int),.agg (eWr.enc x).toArray].toArray w3 (fun e w4=>∃b,e=.returned (.bool b)∧b=true∧J (k+1) w4)) (h0:J 0 w) :
  Ctr Tryz.prog 79 [.func (.yield l) #[] #[],.pointer (some (adr (bx b0) 0))] w (fun _ w'=>J ps.length w'):=by
 have hbd:=(hread 0 w h0).bound
 refine Ac Tryz.func79 Tryz.ntmps79 rfl rfl rfl ?_
 repeat' (first|refine R1 ?_|(refine Q1 ?_;first|(refine Q3 (hu:=by (first|exact T.p68|exact T.p100)) ?_)|(refine Q2 (hu:=T.f102_1) ?_)|(refine Q6 (hu:=T.s100) ?_))|refine R2 ?_|fail)
 refine Zh (ι:=Nat) (fun k=>[(0,.func (.yield l) #[] #[]),(8,.slice pp ps.length cp),(9,.int .i64 (ps.length:Int)),(10,.int .i64 (k:Int))]) (fun k w'=>k≤ps.length∧J k w') (fun k=>ps.length - k) 0 ⟨rfl,rfl,rfl,rfl,trivial⟩ ⟨Nat.zero_le _,h0⟩ ?_
 intro k w1 ⟨hk,hJ⟩
 by_cases hlt:k<ps.length
 ·obtain ⟨x,hx⟩:=Aj hlt
  have hs:=hread k w1 hJ
  have hok:=hs.ok
  repeat' (first|refine R1 ?_|(refine Q1 ?_;first|(refine Q14 T.a141 (hs:=hs) (hq:=hx) ?_)|refine Q13 T.s100 ?_)|refine R2 ?_|(apply Za;exact rfl;all_goals (intro h;try (exfalso;omega)))|fail)
  all_goals try (exfalso;omega)
  refine Q1 ?_;refine Q7 T.zero141 ?_;intro a4 w2 ha4 hA4 hx2 hs2
  repeat' (refine Q1 ?_;refine Q39 ?_)
  refine Q1 ?_;refine Q5 T.z141 hA4 (hl:=Enc.len eWr _) ?_;intro w3 hA4 hg3 hs3
  replace hA4:Blk w3.heap a4 141 (eWr.enc x):=Blk.all hA4 (Nat.le_of_eq (eWr.len (0,Cw)))
  have hx3:Ext w1 w3:=hx2.own hg3 (fun k hk=>by injection hk;omega)
  repeat' (first|(refine Zam 3 rfl rfl rfl ?_)|refine R1 ?_|(refine Q1 ?_;(refine Q11 T.a141 (hb:=hA4) (hl:=eWr.len _) ?_))|fail)
  refine ⟨l,[.int .i64 (k:Int),.agg (eWr.enc x).toArray],fun b w'=>b=true∧J (k+1) w',rfl,rfl,hY k x w1 w3 hx hJ hx3,?_⟩
  rintro b w4 ⟨rfl,hJ4⟩
  repeat' (first|refine R1 ?_|refine R2 ?_|fail)
  exact Zc (k+1) ⟨rfl,rfl,rfl,rfl,trivial⟩ ⟨by omega,hJ4⟩ (by omega)
 ·repeat' (first|refine R1 ?_|refine R2 ?_|(apply Za;exact rfl;all_goals (intro h;try (exfalso;omega)))|fail)
  all_goals try (exfalso;omega)
  obtain rfl:k=ps.length:=by omega
  refine Zk Tryz.results79 (vs:=[]) rfl ?_
  exact hJ
def SyJ (ix:Nat) (g:Nat→Nat) (w:World) (d a1 l D:Nat) (pd pp:Option Addr) (cd cp:Nat) (nd:Nat) (ps:List (Int × Sec)) (rec:Loop) (w':World):Prop :=
 ∃g' ds',Stq ix [1] g g' w w'∧ds'.length=nd∧Bk g' w' 1 d 102 [.slice pd nd cd,.slice pp ps.length cp,.int .i64 (-1)]∧Rw g' w' 1 139 BZ pd cd ds'∧Rw g' w' 1 141 eWr pp cp ps ∧
  Blk w'.heap a1 68 [.pointer (some (adr (bx d) 0))]∧w'.heap[l]?=some (.loop rec)∧w'.heap[D]?=some (.deferred (some []))
theorem SyJ.ext {ix:Nat} {g:Nat→Nat} {w:World} {d a1 l D:Nat} {pd pp:Option Addr} {cd cp nd:Nat} {ps:List (Int × Sec)} {rec:Loop} {w1 w2:World} (h:SyJ ix g w d a1 l D pd pp cd cp nd ps rec w1) (hx:Ext w1 w2):SyJ ix g w d a1 l D pd pp cd cp nd ps rec w2:=by
 obtain ⟨g',ds',h1,h2,h3,h4,h5,h6,h7,h8⟩:=h
 exact ⟨g',ds',h1.trans (Stq.of_ext' hx),h2,h3.ext' hx,h4.ext' hx,h5.ext' hx,h6.ext hx,hx.blk h7,hx.blk h8⟩
theorem BG {w:World} {k b t:Nat} {cs:List Value} {o:Obj} (h:w.heap[k]?=some o) (hb:Blk w.heap b t cs) (ho:o.isCells=false):k≠b:=by
 rintro rfl
 unfold Blk at hb
 rw [h] at hb
 injection hb with hb
 subst hb
 cases ho
theorem Gx {w:World} {k:Nat} {o:Obj} (h:w.heap[k]?=some o) (ho:o.isCells=false):¬IxB w k:=by
 rintro ⟨cs,T,fr,h1,_⟩
 rw [h] at h1
 injection h1 with h1
 subst h1
 cases ho
theorem SyJ.put {ix:Nat} {g:Nat→Nat} {w:World} {d a1 l D:Nat} {pd pp:Option Addr} {cd cp nd:Nat} {ps:List (Int × Sec)} {rec rec':Loop} {w1:World} (h:SyJ ix g w d a1 l D pd pp cd cp nd ps rec w1) (hl:w.heap.size≤l) (hD:l≠D):SyJ ix g w d a1 l D pd pp cd cp nd ps rec' (w1.putObj l (.loop rec')):=by
 obtain ⟨g',ds',h1,h2,h3,h4,h5,h6,h7,h8⟩:=h
 have hg:w1.grownBy (w1.putObj l (.loop rec')) (some l):=Br l _
 have hlt:l<w1.heap.size:=(Array.getElem?_eq_some_iff.1 h7).1
 have hs:∀k,k≠l→(w1.putObj l (.loop rec')).heap[k]?=w1.heap[k]?:=fun k hk=>World.putObj_heap_other hk
 have nb:∀{b t cs},Blk w1.heap b t cs→some l≠some b:=fun hb e=>by injection e with e;exact BG h7 hb rfl e
 have nr:∀{α:Type} {e:Enc α} {p c E} {xs:List α},Rw g' w1 1 E e p c xs→∀k,blk p=some k→k≠l:=fun hr k hk e=>by
  subst e
  obtain ⟨c1,h9⟩:=Go.V.Own.at hr.own hk
  rw [h7] at h9;cases h9
 refine ⟨g',ds',?_,h2,⟨h3.blk.grown hg (nb h3.blk),h3.tag,h3.nx⟩,h4.keep fun k hk=>⟨hs k (nr h4 k hk),rfl⟩,h5.keep fun k hk=>⟨hs k (nr h5 k hk),rfl⟩,h6.grown hg (nb h6),World.putObj_heap_same hlt,(hs D (fun e=>hD e.symm)).trans h8⟩
 exact ⟨h1.os,h1.tape,h1.output,by rw [World.putObj_size];exact h1.size,fun k hk a b=>(hs k (by omega)).trans (h1.block k hk a b),h1.tags⟩
theorem Lx {ix:Nat} {g:Nat→Nat} {w:World} {d:Nat} {ds:List Sec} {ps:List (Int × Sec)} (hD:AZ g w d ds ps) (hps:∀x∈ps,0≤x.1∧x.1<ds.length) (hds:ds.length≤65536) :
  Ctr Tryz.prog 106 [.pointer (some (adr (bx d) 0))] w (fun v w'=>v=.int .i64 0∧∃g' ds',Stq ix [1] g g' w w'∧AZ g' w' d ds' []∧ds'.length=ds.length):=by
 refine Jq Tryz.func106 Tryz.ntmps106 rfl rfl rfl ?_
 repeat' (refine R1 ?_)
 refine Q1 ?_;refine Q8 ?_;intro a1 w1 ha1 hA1 hx1 hs1
 replace hA1:Blk w1.heap a1 68 [.pointer (some (adr (bx d) 0))]:=hA1
 repeat' (first|refine R1 ?_|(refine Q1 ?_;first|(refine Q4 (f:=170) (hc:=Ha (hD.ext hx1 0)) ?_;rintro _ _ ⟨rfl,rfl⟩;refine Kc ?_)|(refine Q3 (hu:=T.p68) ?_))|refine R2 ?_|fail)
 refine Q1 ?_;refine Q4 (hc:=Im) ?_;rintro _ w2 ⟨b0,rfl,hb0,hB0,hx2,hs2⟩;refine Kc ?_
 repeat' (first|refine R1 ?_|refine R2 ?_|fail)
 obtain ⟨pd,cd,pp,cp,h1,h2,h3⟩:=hD
 have hx02:Ext w w2:=hx1.trans hx2
 refine Zn [(1,.pointer (some (adr (bx a1) 0))),(9,.func (.func 79) #[] #[.pointer (some (adr (bx b0) 0))])] ⟨rfl,rfl,trivial⟩ ?_
 refine Zai (gf:=79) rfl rfl ⟨Tryz.f79,Tryz.func79,by decide,rfl⟩ ?_
 intro fn tmps rec wl hH hrec hl0 hD0 hxl hzl
 obtain ⟨l,hl⟩:∃l,w2.heap.size+1=l:=⟨_,rfl⟩
 obtain ⟨D,hDD⟩:∃D,w2.heap.size=D:=⟨_,rfl⟩
 rw [hl] at hl0 ⊢
 rw [hDD] at hD0 ⊢
 have hxw:=hx02.trans hxl
 have hb1:=(h1.ext hxw 0).blk
 have hJ0:SyJ ix g w d a1 l D pd pp cd cp ds.length ps rec wl :=
  ⟨rt g w 0,ds,Stq.of_ext hxw 0,rfl,h1.ext hxw 0,h2.ext hxw 0,h3.ext hxw 0,hA1.ext (hx2.trans hxl),hl0,hD0⟩
 have hz:=hx02.size
 have key:=GN (J:=fun _ w'=>SyJ ix g w d a1 l D pd pp cd cp ds.length ps rec w') (l:=l) (hB0.ext hxl) hb1 (fun _ w' h=>by obtain ⟨_,_,_,_,_,_,h5,_⟩:=h;exact h5.sl) ?_ hJ0
 ·have hkc:=key.calls
  refine Calls.mono (by simpa using hkc) ?_
  rintro e w9 ⟨v,rfl,hJ9⟩
  have hl9:w9.heap[l]?=some (.loop rec):=by obtain ⟨_,_,_,_,_,_,_,_,h7,_⟩:=hJ9;exact h7
  refine ⟨⟨v,rfl⟩,rec,hl9,by rw [hrec];simp,by rw [hrec],?_⟩
  have hJe:=hJ9.put (rec':={ rec with state:=.exhausted }) (by omega) (by omega)
  obtain ⟨we,hwe⟩:∃we,w9.putObj l (.loop { rec with state:=.exhausted })=we:=⟨_,rfl⟩
  rw [hwe] at hJe ⊢
  obtain ⟨g',ds',q1,q2,q3,q4,q5,q6,q7,q8⟩:=hJe
  have hb3:=q3.blk
  repeat' (first|(refine Q1 ?_;first|(refine Q3 (hu:=T.p68) ?_)|(refine Q2 (hu:=T.f102_1) ?_))|refine R1 ?_|refine R2 ?_|fail)
  refine Q1 ?_;refine Q5 T.z100 hb3 ?_;intro w10 hb10 hg10 hs10
  replace hb10:Blk w10.heap d 102 [.slice pd ds.length cd,.slice none 0 0,.int .i64 (-1)]:=hb10
  have hS10:=q3.stpG (T:=[1]) (ix:=ix) hg10 1 (by decide)
  have hD10:w10.heap[D]?=some (.deferred (some [])):=(hg10.block D (Array.getElem?_eq_some_iff.1 q8).1 (fun e=>BG q8 hb3 rfl (by injection e))).trans q8
  have hA10:=q6.grown hg10 (fun e=>by injection e with e;exact BB hb3 q6 (by decide) e)
  repeat' (first|refine R1 ?_|refine R2 ?_|fail)
  have hlt:D<w10.heap.size:=(Array.getElem?_eq_some_iff.1 hD10).1
  have hgD:w10.grownBy (w10.putObj D (.deferred none)) (some D):=grownBy_putObj' w10 D _
  have hsD:∀k,k≠D→(w10.putObj D (.deferred none)).heap[k]?=w10.heap[k]?:=fun k hk=>World.putObj_heap_other hk
  refine ZX Tryz.results106 rfl hD10 ⟨_,_,rfl,rfl,rfl⟩ ⟨rfl,rt g' we 1,ds',?_,⟨pd,cd,none,0,?_,?_,Rw.nil (by unfold ixT;decide)⟩,q2⟩
  ·have h9:=q1.trans hS10
   exact ⟨h9.os,h9.tape,h9.output,by rw [World.putObj_size];exact h9.size,fun k hk a b=>(hsD k (by omega)).trans (h9.block k hk a b),h9.tags⟩
  ·have h9:=q3.turned (u:=1) hb10
   rw [q2]
   exact ⟨h9.blk.grown hgD (fun e=>by injection e with e;exact BG hD10 hb10 rfl e),h9.tag,h9.nx⟩
  ·have h9:=q4.turn hg10 (fun k hk e=>q4.neB q3 (by decide) (by rw [hk,e])) 1
   refine h9.keep fun k9 hk9=>⟨hsD k9 (fun e=>?_),rfl⟩
   subst e
   obtain ⟨c1,h11⟩:=Go.V.Own.at h9.own hk9
   rw [hD10] at h11;cases h11
 ·intro k x w' w3 hx hJ hx3
  have hJ3:=hJ.ext hx3
  have hl3:w3.heap[l]?=some (.loop rec):=by obtain ⟨_,_,_,_,_,_,_,_,h7,_⟩:=hJ3;exact h7
  have hxr:=hps x (List.mem_of_getElem? hx)
  refine EN (n:=24) (congrArg Loop.assign hrec) (congrArg Loop.body hrec) (E1:=(Env.put (Env.put [(1,.pointer (some (adr (bx a1) 0))),(9,.func (.func 79) #[] #[.pointer (some (adr (bx b0) 0))])] (some 10) (.int .i64 (k:Int))) (some 11) (.agg (eWr.enc x).toArray))) hl3 (by rw [hrec]) (by rw [hrec]) (by rw [hrec];rfl) ?_ ?_
  ·have h9:=(hH.put (some 10) (.int .i64 (k:Int)) (by rintro t ⟨⟩;decide)).put (some 11) (.agg (eWr.enc x).toArray) (by rintro t ⟨⟩;decide)
   rw [hrec]
   simpa [Act.put] using h9
  refine ZM rfl ?_
  refine Q1 ?_;refine Q7 T.zero141 ?_;intro a4 w4 ha4 hA4 hx4 hs4
  refine Q1 ?_;refine Q5 T.z141 hA4 (hl:=Enc.len eWr _) ?_;intro w5 hA5 hg5 hs5
  replace hA5:Blk w5.heap a4 141 (eWr.enc x):=Blk.all hA5 (Nat.le_of_eq (eWr.len (0,Cw)))
  have hx5:Ext w3 w5:=hx4.own hg5 (fun k hk=>by injection hk;omega)
  have hJ5:=hJ3.ext hx5
  refine Zu ?_
  refine EY (hx5.blk hl3) ?_
  have hJb:=hJ5.put (rec':={ rec with state:=.busy }) (by omega) (by omega)
  have hAb:Blk (w5.putObj l (.loop { rec with state:=.busy })).heap a4 141 (eWr.enc x):=hA5.grown (Br l _) (fun e=>by injection e with e;exact BG (hx5.blk hl3) hA5 rfl e)
  obtain ⟨wb,hwb⟩:∃wb,w5.putObj l (.loop { rec with state:=.busy })=wb:=⟨_,rfl⟩
  rw [hwb] at hJb hAb ⊢
  refine ZaB ?_
  refine Zbg 1 [] [0,1,2,3,4,5,6,7,8,9] mixed (by decide +kernel) ?_
  have hJd:=hJb.ext (Ext.drew Ext.rfl')
  replace hAb:=hAb.ext (Ext.drew Ext.rfl')
  obtain ⟨g',ds',q1,q2,q3,q4,q5,q6,q7,q8⟩:=hJd
  have hb3:=q3.blk
  have hok:Okp pd ds.length cd:=by rw [← q2];exact q4.sl.ok
  repeat' (first|(refine Q1 ?_;first|(refine Q34 T.a139 (vs:=BZ.enc x.2) (hb:=hAb) (hv:=XM x) (hl:=BZ.len _) ?_)|(refine Q128 x.2 T.z139 rfl rfl q4.own rfl rfl rfl rfl rfl (q:=x.1.toNat) (hq:=by (rw [q2];omega)) ?_;intro w6 hO6 hg6 hs6)|(refine Q3 (hu:=by (first|exact T.p68|exact T.p99|exact T.p3)) ?_)|(refine Q2 (hu:=by (first|exact T.f102_0|exact T.f141_0|exact T.f141_1)) ?_)|refine Q25 T.s99 ?_)|refine R1 ?_|refine R2 ?_|fail)
  have hl6:=(hg6.block l (Array.getElem?_eq_some_iff.1 q7).1 (fun e=>by
   obtain ⟨c1,h11⟩:=Go.V.Own.at q4.own e.symm
   rw [q7] at h11;cases h11)).trans q7
  have hD6:=(hg6.block D (Array.getElem?_eq_some_iff.1 q8).1 (fun e=>by
   obtain ⟨c1,h11⟩:=Go.V.Own.at q4.own e.symm
   rw [q8] at h11;cases h11)).trans q8
  have hJ6:SyJ ix g w d a1 l D pd pp cd cp ds.length ps { rec with state:=.busy } w6 :=
   ⟨rt g' _ 1,_,q1.trans (q4.stpG (ix:=ix) (T:=[1]) hg6 1 (by decide)),by rw [List.length_set];exact q2,q3.turn hg6 (q4.neB q3 (by decide)) 1,q4.turned hO6,
    q5.turn hg6 (fun k hk=>q4.neT q5 (by decide) k hk) 1,q6.grown hg6 (q4.own.neB q6 (by decide)),hl6,hD6⟩
  unfold Post
  exact fun a _=>⟨rfl,hl6,hJ6.put (by omega) (by omega)⟩
def ET (o:Option (ByteArray × Value)):List ByteArray:=match o with
 | none=>[]
 | some (s,_)=>[s]
def AsJ (w:World) (a2 l D:Nat) (rec:Loop) (L:List ByteArray) (w':World):Prop :=
 ∃p c,(L=[]→p=none∧c=0)∧Blk w'.heap a2 61 [.slice p L.length c]∧Go.V.Own w' w.heap.size 9 Ar p c L∧w'.heap[l]?=some (.loop rec)∧w'.heap[D]?=some (.deferred (some []))∧Ext w w'
theorem AsJ.ext {w w1 w2:World} {a2 l D:Nat} {rec:Loop} {L:List ByteArray} (h:AsJ w a2 l D rec L w1) (hx:Ext w1 w2):AsJ w a2 l D rec L w2:=by
 obtain ⟨p,c,h1,h2,h3,h4,h5,h6⟩:=h
 exact ⟨p,c,h1,h2.ext hx,h3.ext hx,hx.blk h4,hx.blk h5,h6.trans hx⟩
theorem AsJ.put {w w1:World} {a2 l D:Nat} {rec rec':Loop} {L:List ByteArray} (h:AsJ w a2 l D rec L w1) (hl:w.heap.size≤l) (hD:l≠D):AsJ w a2 l D rec' L (w1.putObj l (.loop rec')):=by
 obtain ⟨p,c,h1,h2,h3,h4,h5,h6⟩:=h
 have hg:w1.grownBy (w1.putObj l (.loop rec')) (some l):=Br l _
 have hlt:l<w1.heap.size:=(Array.getElem?_eq_some_iff.1 h4).1
 have hs:∀k,k≠l→(w1.putObj l (.loop rec')).heap[k]?=w1.heap[k]?:=fun k hk=>World.putObj_heap_other hk
 refine ⟨p,c,h1,h2.grown hg (fun e=>by injection e with e;exact BG h4 h2 rfl e),h3.kept hg (fun a ha e=>?_),World.putObj_heap_same hlt,(hs D (fun e=>hD e.symm)).trans h5,h6.own hg (fun k hk=>by injection hk;omega)⟩
 injection e with e
 obtain ⟨c1,h9⟩:=Go.V.Own.at h3 (k:=l) (by rw [ha,e];rfl)
 rw [h4] at h9;cases h9
theorem Nl {o:Option (ByteArray × Value)} {b0 mp:Nat} {w:World} (hB0:Blk w.heap b0 109 [.map (some mp)]) (hM:Cy Tryz.prog w 9 mp o) (hk:∀s v,o=some (s,v)→s.size≤4096) :
  Ctr Tryz.prog 508 [.slice none 0 0,.func (.func 446) #[] #[.pointer (some (adr (bx b0) 0))]] w (fun v w'=>∃p c,v=.slice p (ET o).length c∧Go.V.Own w' w.heap.size 9 Ar p c (ET o)∧Ext w w'):=by
 refine Jq Tryz.func508 Tryz.ntmps508 rfl rfl rfl ?_
 repeat' (refine R1 ?_)
 refine Q1 ?_;refine Q8 ?_;intro a2 w1 ha2 hA2 hx1 hs1
 replace hA2:Blk w1.heap a2 61 [.slice none ([]:List ByteArray).length 0]:=hA2
 repeat' (first|refine R1 ?_|refine R2 ?_|fail)
 refine Zn [(2,.pointer (some (adr (bx a2) 0))),(6,.func (.func 446) #[] #[.pointer (some (adr (bx b0) 0))])] ⟨rfl,rfl,trivial⟩ ?_
 refine Zai (gf:=446) rfl rfl ⟨Tryz.f446,Tryz.func446,by decide,rfl⟩ ?_
 intro fn tmps rec wl hH hrec hl0 hD0 hxl hzl
 obtain ⟨l,hl⟩:∃l,w1.heap.size+1=l:=⟨_,rfl⟩
 obtain ⟨D,hDD⟩:∃D,w1.heap.size=D:=⟨_,rfl⟩
 rw [hl] at hl0 ⊢
 rw [hDD] at hD0 ⊢
 have hxw:=hx1.trans hxl
 have hJ0:AsJ w a2 l D rec [] wl:=⟨none,0,fun _=>⟨rfl,rfl⟩,hA2.ext hxl,Own.nil _ _ _ _,hl0,hD0,hxw⟩
 have hmlt:=hM.lt
 have key:=Pw (o:=o) (l:=l) (J:=fun k w'=>AsJ w a2 l D rec (if k=0 then [] else ET o) w') (hB0.ext hxw) (hM.ext hxw) hk (fun k w1 w2 h hx=>h.ext hx) ?_ ?_ (by simpa using hJ0)
 ·have hkc:=key.calls
  refine Calls.mono (by simpa using hkc) ?_
  rintro e w9 ⟨v,rfl,hJ9⟩
  have hLe:(if KX o=0 then [] else ET o)=ET o:=by cases o <;> simp [KX,ET]
  rw [hLe] at hJ9
  have hl9:w9.heap[l]?=some (.loop rec):=by obtain ⟨_,_,_,_,_,h4,_⟩:=hJ9;exact h4
  refine ⟨⟨v,rfl⟩,rec,hl9,by rw [hrec];simp,by rw [hrec],?_⟩
  have hJe:=hJ9.put (rec':={ rec with state:=.exhausted }) (by omega) (by omega)
  obtain ⟨we,hwe⟩:∃we,w9.putObj l (.loop { rec with state:=.exhausted })=we:=⟨_,rfl⟩
  rw [hwe] at hJe ⊢
  obtain ⟨p,c,q1,q2,q3,q4,q5,q6⟩:=hJe
  repeat' (first|refine R1 ?_|(refine Q1 ?_;(refine Q3 (hu:=T.p61) ?_))|refine R2 ?_|fail)
  have hgD:we.grownBy (we.putObj D (.deferred none)) (some D):=grownBy_putObj' we D _
  refine ZX Tryz.results508 rfl q5 ⟨_,_,rfl,rfl,rfl⟩ ⟨p,c,rfl,q3.kept hgD (fun a ha e=>?_),q6.own hgD (fun k hk=>by injection hk;omega)⟩
  injection e with e
  obtain ⟨c1,h9⟩:=Go.V.Own.at q3 (k:=D) (by rw [ha,e];rfl)
  rw [q5] at h9;cases h9
 ·intro r v1 v2 hr h hg
  simp only [if_true] at h ⊢
  obtain ⟨p,c,h1,h2,h3,h4,h5,h6⟩:=h
  obtain ⟨rfl,rfl⟩:=h1 rfl
  have hz:=hxl.size
  refine ⟨none,0,fun _=>⟨rfl,rfl⟩,h2.grown hg (fun e=>by injection e;have:=(hA2.ext hxl).lt;omega),Own.nil _ _ _ _,?_,?_,h6.own hg (fun k hk=>by injection hk;have:=hxw.size;omega)⟩
  ·rw [hg.block l (Array.getElem?_eq_some_iff.1 h4).1 (fun e=>by injection e;have:=(Array.getElem?_eq_some_iff.1 hl0).1;omega)];exact h4
  ·rw [hg.block D (Array.getElem?_eq_some_iff.1 h5).1 (fun e=>by injection e;have:=(Array.getElem?_eq_some_iff.1 hD0).1;omega)];exact h5
 ·intro s v w3 ho hx3 hJ
  simp only [if_true] at hJ
  have hl3:w3.heap[l]?=some (.loop rec):=by obtain ⟨_,_,_,_,_,h4,_⟩:=hJ;exact h4
  refine EN (n:=13) (congrArg Loop.assign hrec) (congrArg Loop.body hrec) (E1:=(Env.put [(2,.pointer (some (adr (bx a2) 0))),(6,.func (.func 446) #[] #[.pointer (some (adr (bx b0) 0))])] (some 7) (.string s))) hl3 (by rw [hrec]) (by rw [hrec]) (by rw [hrec];rfl) ?_ ?_
  ·have h9:=hH.put (some 7) (.string s) (by rintro t ⟨⟩;decide)
   rw [hrec]
   simpa [Act.put] using h9
  refine ZM rfl ?_
  refine Q1 ?_
  refine Q39 ?_
  refine Zu ?_
  refine EY hl3 ?_
  have hJb:=hJ.put (rec':={ rec with state:=.busy }) (by omega) (by omega)
  obtain ⟨wb,hwb⟩:∃wb,w3.putObj l (.loop { rec with state:=.busy })=wb:=⟨_,rfl⟩
  have hgb:w3.grownBy wb (some l):=by rw [← hwb];exact Br l _
  rw [hwb] at hJb ⊢
  refine ZaB ?_
  refine ZM rfl ?_
  obtain ⟨p,c,h1,h2,h3,h4,h5,h6⟩:=hJb
  obtain ⟨rfl,rfl⟩:=h1 rfl
  repeat' (refine Q1 ?_;first|refine Q19 ?_|(refine Q3 (hu:=T.p61) ?_))
  refine Q1 ?_
  refine Q12 Ar s T.s61 ?_
  intro p4 w4 hp4 hs4 _ hx4 hz4
  have hz6:=h6.size
  have hz4':=hx4.size
  have hnil:Go.V.Own w4 w.heap.size 9 Ar none 0 []:=Go.V.Own.nil _ _ _ _
  repeat' (refine Q1 ?_;(refine Q16 T.s61 hnil hs4 (xs:=[]) (ys:=[s]) (B:=w.heap.size) ?_;intro p5 c5 w5 ha5))
  have hg5:Ext w4 w5:=Ext.of_grown ha5.grown
  have h25:=(h2.ext hx4).ext hg5
  refine Q1 ?_;refine Q5 T.z61 h25 ?_;intro w6 h26 hg6 hs6
  replace h26:Blk w6.heap a2 61 [.slice p5 ([s]:List ByteArray).length c5]:=h26
  have hxb5:=hx4.trans hg5
  have hl6:w6.heap[l]?=some (.loop { rec with state:=.busy }):=by
   rw [hg6.block l (Array.getElem?_eq_some_iff.1 (hxb5.blk h4)).1 (fun e=>by injection e;omega)];exact hxb5.blk h4
  have hD6:w6.heap[D]?=some (.deferred (some [])):=by
   rw [hg6.block D (Array.getElem?_eq_some_iff.1 (hxb5.blk h5)).1 (fun e=>by injection e;omega)];exact hxb5.blk h5
  have hJ6:AsJ w a2 l D { rec with state:=.busy } [s] w6 :=
   ⟨p5,c5,fun e=>(by cases e),h26,ha5.own.kept hg6 (fun a ha e=>by
    injection e with e
    exact ha5.own.neB h25 (by decide) (by rw [ha,e];rfl)),hl6,hD6,(h6.trans hxb5).own hg6 (fun k hk=>by injection hk;omega)⟩
  have hJr:=hJ6.put (rec':=rec) (by omega) (by omega)
  refine Zu ?_
  unfold Post
  refine fun a _=>⟨rfl,hl6,?_,fun q hq hq3=>?_⟩
  ·have e:(if (1:Nat)=0 then [] else ET o)=[s]:=by rw [ho];rfl
   rw [e]
   exact hJr
  ·have hzl':=hxl.size
   have hzw:=hx1.size
   have hne:q≠l∧q≠a2:=by
    have:=(Array.getElem?_eq_some_iff.1 hl0).1
    have:=(hA2.ext hxl).lt
    rcases hq with hq|hq <;> omega
   rw [World.putObj_heap_other hne.1,hg6.block q (by have:=hxb5.size;have:=hgb.size;omega) (fun e=>hne.2 (by injection e)),hxb5.block q (by have:=hgb.size;omega),hgb.block q hq3 (fun e=>hne.1 (by injection e))]
theorem MG {o:Option (ByteArray × Value)} {b0 mp:Nat} {w:World} (hB0:Blk w.heap b0 109 [.map (some mp)]) (hM:Cy Tryz.prog w 9 mp o) (hk:∀s v,o=some (s,v)→s.size≤4096) :
  Ctr Tryz.prog 445 [.func (.func 446) #[] #[.pointer (some (adr (bx b0) 0))]] w (fun v w'=>∃p c,v=.slice p (ET o).length c∧Go.V.Own w' w.heap.size 9 Ar p c (ET o)∧Ext w w'):=by
 refine Ac Tryz.func445 Tryz.ntmps445 rfl rfl rfl ?_
 repeat' (first|refine R1 ?_|(refine Q1 ?_;(refine Q4 (f:=508) (hc:=Nl hB0 hM hk) ?_;rintro _ w1 ⟨p,c,rfl,hO1,hx1⟩;refine Kc ?_))|refine R2 ?_|fail)
 refine Kr Tryz.results445 ?_
 exact ⟨p,c,rfl,hO1,hx1⟩
theorem Ox {o:Option (ByteArray × Value)} {b0 mp:Nat} {w:World} (hB0:Blk w.heap b0 109 [.map (some mp)]) (hM:Cy Tryz.prog w 9 mp o) (hk:∀s v,o=some (s,v)→s.size≤4096) :
  Ctr Tryz.prog 329 [.func (.func 446) #[] #[.pointer (some (adr (bx b0) 0))]] w (fun v w'=>∃p c,v=.slice p (ET o).length c∧Go.V.Own w' w.heap.size 9 Ar p c (ET o)∧Ext w w'):=by
 refine Ac Tryz.func329 Tryz.ntmps329 rfl rfl rfl ?_
 repeat' (first|refine R1 ?_|(refine Q1 ?_;(refine Q4 (f:=445) (hc:=MG hB0 hM hk) ?_;rintro _ w1 ⟨p,c,rfl,hO1,hx1⟩;refine Kc ?_))|fail)
 have hz1:=hx1.size
 have hl:(ET o).length≤1:=by cases o <;> simp [ET]
 refine Q1 ?_
 refine Q4 (hc:=SG hO1 (by omega)) ?_
 rintro _ w2 ⟨ys,hO2,hl2,hm2,_,hg2⟩
 have hx2:Ext w w2:=hx1.own hg2 (fun k hk=>(hO1.ge k hk).1)
 refine ⟨.inl rfl,?_⟩
 have hys:ys=ET o:=by
  cases o with
  | none=>exact List.eq_nil_of_length_eq_zero (by simpa [ET] using hl2)
  | some x =>
   obtain ⟨s,v⟩:=x
   simp only [ET,List.length_singleton] at hl2 hm2 ⊢
   match ys,hl2 with
   | [y],_ =>
    have:=(hm2 y).1 (by simp)
    simp at this
    rw [this]
 rw [hys] at hO2
 repeat' (first|refine R1 ?_|refine R2 ?_|fail)
 refine Kr Tryz.results329 ?_
 exact ⟨p,c,rfl,hO2,hx2⟩
theorem XN {p:Option Addr} {c:Nat} {xs:List (ByteArray × ByteArray)} {w:World} (hx:Sl w.heap JP p c xs) (hb:xs.length≤1000000) :
  Ctr Tryz.prog 226 [.slice p xs.length c] w (fun v w'=>∃p' c',v=.slice p' xs.length c'∧Go.V.Own w' w.heap.size 285 JP p' c' xs∧Ext w w'):=by
 refine Ac Tryz.func226 Tryz.ntmps226 rfl rfl rfl ?_
 repeat' (first|refine R1 ?_|(refine Q1 ?_;refine Q48 T.s166 ?_)|refine R2 ?_|(apply Zy;exact rfl;all_goals intro h)|fail)
 ·refine Kr Tryz.results226 ?_
  have hn:p=none:=by simpa using h
  have h1:=hx.ok.nul hn
  have h2:=hx.ok.le
  obtain rfl:xs=[]:=List.eq_nil_of_length_eq_zero (by omega)
  exact ⟨none,0,rfl,Own.nil _ _ _ _,Kz⟩
 ·refine Q1 ?_
  refine Q46 JP T.s166 ?_
  intro p1 w1 ho hx1 hs1
  have hsl:=hx.ext hx1
  repeat' (first|refine R1 ?_|(refine Q1 ?_;(refine Q45 T.s166 ho hsl ?_;intro p2 c2 w2 ho2 hg2 hn2))|refine R2 ?_|fail)
  refine Kr Tryz.results226 ?_
  exact ⟨p2,c2,rfl,ho2,Ext.own hx1 hg2 (fun k hk=>(ho.ge k hk).1)⟩
theorem XP {p:Option Addr} {c:Nat} {xs:List ByteArray} {w:World} (hx:Sl w.heap Ar p c xs) (hb:xs.length≤1000000) :
  Ctr Tryz.prog 227 [.slice p xs.length c] w (fun v w'=>∃p' c',v=.slice p' xs.length c'∧Go.V.Own w' w.heap.size 9 Ar p' c' xs∧Ext w w'):=by
 refine Ac Tryz.func227 Tryz.ntmps227 rfl rfl rfl ?_
 repeat' (first|refine R1 ?_|(refine Q1 ?_;refine Q48 T.s61 ?_)|refine R2 ?_|(apply Zy;exact rfl;all_goals intro h)|fail)
 ·refine Kr Tryz.results227 ?_
  have hn:p=none:=by simpa using h
  have h1:=hx.ok.nul hn
  have h2:=hx.ok.le
  obtain rfl:xs=[]:=List.eq_nil_of_length_eq_zero (by omega)
  exact ⟨none,0,rfl,Own.nil _ _ _ _,Kz⟩
 ·refine Q1 ?_
  refine Q46 Ar T.s61 ?_
  intro p1 w1 ho hx1 hs1
  have hsl:=hx.ext hx1
  repeat' (first|refine R1 ?_|(refine Q1 ?_;(refine Q45 T.s61 ho hsl ?_;intro p2 c2 w2 ho2 hg2 hn2))|refine R2 ?_|fail)
  refine Kr Tryz.results227 ?_
  exact ⟨p2,c2,rfl,ho2,Ext.own hx1 hg2 (fun k hk=>(ho.ge k hk).1)⟩
theorem XO {p:Option Addr} {c:Nat} {xs:List (Int × ByteArray)} {w:World} (hx:Sl w.heap Ph p c xs) (hb:xs.length≤1000000) :
  Ctr Tryz.prog 228 [.slice p xs.length c] w (fun v w'=>∃p' c',v=.slice p' xs.length c'∧Go.V.Own w' w.heap.size 287 Ph p' c' xs∧Ext w w'):=by
 refine Ac Tryz.func228 Tryz.ntmps228 rfl rfl rfl ?_
 repeat' (first|refine R1 ?_|(refine Q1 ?_;refine Q48 T.s167 ?_)|refine R2 ?_|(apply Zy;exact rfl;all_goals intro h)|fail)
 ·refine Kr Tryz.results228 ?_
  have hn:p=none:=by simpa using h
  have h1:=hx.ok.nul hn
  have h2:=hx.ok.le
  obtain rfl:xs=[]:=List.eq_nil_of_length_eq_zero (by omega)
  exact ⟨none,0,rfl,Own.nil _ _ _ _,Kz⟩
 ·refine Q1 ?_
  refine Q46 Ph T.s167 ?_
  intro p1 w1 ho hx1 hs1
  have hsl:=hx.ext hx1
  repeat' (first|refine R1 ?_|(refine Q1 ?_;(refine Q45 T.s167 ho hsl ?_;intro p2 c2 w2 ho2 hg2 hn2))|refine R2 ?_|fail)
  refine Kr Tryz.results228 ?_
  exact ⟨p2,c2,rfl,ho2,Ext.own hx1 hg2 (fun k hk=>(ho.ge k hk).1)⟩
theorem IJ {k:Int} {s:ByteArray} {p1 p2 p3:Option Addr} {c1 c2 c3:Nat} {ps:List (ByteArray × ByteArray)} {ts:List ByteArray} {zs:List (Int × ByteArray)} {w:World}
  (h1:Sl w.heap JP p1 c1 ps) (h2:Sl w.heap Ar p2 c2 ts) (h3:Sl w.heap Ph p3 c3 zs) (b1:ps.length≤1000000) (b2:ts.length≤1000000) (b3:zs.length≤1000000) :
  Ctr Tryz.prog 162 [.agg #[.int .i64 k,.string s,.slice p1 ps.length c1,.slice p2 ts.length c2,.slice p3 zs.length c3]] w (fun v w'=>∃q1 d1 q2 d2 q3 d3,
   v=.agg #[.int .i64 k,.string s,.slice q1 ps.length d1,.slice q2 ts.length d2,.slice q3 zs.length d3] ∧
   Go.V.Own w' w.heap.size 285 JP q1 d1 ps∧Go.V.Own w' w.heap.size 9 Ar q2 d2 ts∧Go.V.Own w' w.heap.size 287 Ph q3 d3 zs∧Ext w w'):=by
 refine Ac Tryz.func162 Tryz.ntmps162 rfl rfl rfl ?_
 repeat' (refine R1 ?_)
 refine Q1 ?_;refine Q8 ?_;intro a1 w1 ha1 hA1 hx1 hs1
 skip
 replace hA1:Blk w1.heap a1 169 [.int .i64 k,.string s,.slice p1 ps.length c1,.slice p2 ts.length c2,.slice p3 zs.length c3]:=hA1
 refine Q1 ?_;refine Q7 T.zero169 ?_;intro a2 w2 ha2 hA2 hx2 hs2
 have hx:Ext w w2:=hx1.trans hx2
 replace hA1:=hA1.ext hx2
 repeat' (first|(refine Q1 ?_;first|(refine Q2 (hu:=T.f169_2) ?_)|(refine Q3 (hu:=T.p166) ?_))|refine R1 ?_|fail)
 refine Q1 ?_;refine Q4 (hc:=XN (h1.ext hx) b1) ?_;rintro _ w3 ⟨q1,d1,rfl,o1,hx3⟩;refine Kc ?_
 replace hx:=hx.trans hx3
 replace hA1:=hA1.ext hx3
 replace hA2:=hA2.ext hx3
 have z3:=hx3.size
 repeat' (refine Q1 ?_;(refine Q2 (hu:=T.f169_2) ?_))
 refine Q1 ?_;refine Q5 T.z166 hA1 ?_;intro w4 hA1 hg4 hs4
 replace hA1:Blk w4.heap a1 169 [.int .i64 k,.string s,.slice q1 ps.length d1,.slice p2 ts.length c2,.slice p3 zs.length c3]:=hA1
 replace hx:=hx.own hg4 (fun k hk=>by injection hk;omega)
 replace hA2:=hA2.grown hg4 (by simp;omega)
 replace o1:=o1.kept hg4 (o1.ne (by omega))
 repeat' (first|(refine Q1 ?_;first|(refine Q2 (hu:=T.f169_3) ?_)|(refine Q3 (hu:=T.p61) ?_))|refine R1 ?_|fail)
 refine Q1 ?_;refine Q4 (hc:=XP (h2.ext hx) b2) ?_;rintro _ w5 ⟨q2,d2,rfl,o2,hx5⟩;refine Kc ?_
 replace hx:=hx.trans hx5
 replace hA1:=hA1.ext hx5
 replace hA2:=hA2.ext hx5
 replace o1:=o1.ext hx5
 have z5:=hx5.size
 repeat' (refine Q1 ?_;(refine Q2 (hu:=T.f169_3) ?_))
 refine Q1 ?_;refine Q5 T.z61 hA1 ?_;intro w6 hA1 hg6 hs6
 replace hA1:Blk w6.heap a1 169 [.int .i64 k,.string s,.slice q1 ps.length d1,.slice q2 ts.length d2,.slice p3 zs.length c3]:=hA1
 replace hx:=hx.own hg6 (fun k hk=>by injection hk;omega)
 replace hA2:=hA2.grown hg6 (by simp;omega)
 replace o1:=o1.kept hg6 (o1.ne (by omega))
 replace o2:=o2.kept hg6 (o2.ne (by omega))
 repeat' (first|(refine Q1 ?_;first|(refine Q2 (hu:=T.f169_4) ?_)|(refine Q3 (hu:=T.p167) ?_))|refine R1 ?_|fail)
 refine Q1 ?_;refine Q4 (hc:=XO (h3.ext hx) b3) ?_;rintro _ w7 ⟨q3,d3,rfl,o3,hx7⟩;refine Kc ?_
 replace hx:=hx.trans hx7
 replace hA1:=hA1.ext hx7
 replace hA2:=hA2.ext hx7
 replace o1:=o1.ext hx7
 replace o2:=o2.ext hx7
 have z7:=hx7.size
 repeat' (refine Q1 ?_;(refine Q2 (hu:=T.f169_4) ?_))
 refine Q1 ?_;refine Q5 T.z167 hA1 ?_;intro w8 hA1 hg8 hs8
 replace hA1:Blk w8.heap a1 169 [.int .i64 k,.string s,.slice q1 ps.length d1,.slice q2 ts.length d2,.slice q3 zs.length d3]:=hA1
 replace hx:=hx.own hg8 (fun k hk=>by injection hk;omega)
 replace hA2:=hA2.grown hg8 (by simp;omega)
 replace o1:=o1.kept hg8 (o1.ne (by omega))
 replace o2:=o2.kept hg8 (o2.ne (by omega))
 replace o3:=o3.kept hg8 (o3.ne (by omega))
 repeat' (first|(refine Q1 ?_;refine Q11 T.a169 ?_)|refine R1 ?_|fail)
 refine Q1 ?_;refine Q5 T.z169 hA2 ?_;intro w9 hA2 hg9 hs9
 replace hA2:Blk w9.heap a2 169 [.int .i64 k,.string s,.slice q1 ps.length d1,.slice q2 ts.length d2,.slice q3 zs.length d3]:=hA2
 replace hx:=hx.own hg9 (fun k hk=>by injection hk;omega)
 replace o1:=o1.kept hg9 (o1.ne (by omega))
 replace o2:=o2.kept hg9 (o2.ne (by omega))
 replace o3:=o3.kept hg9 (o3.ne (by omega))
 repeat' (first|refine R1 ?_|refine R2 ?_|fail)
 refine Ze Tryz.results162 ⟨_,_,_,rfl,rfl,Ae T.a169 (by assumption) rfl,rfl⟩ ?_
 exact ⟨q1,d1,q2,d2,q3,d3,rfl,o1.base (by omega),o2.base (by omega),o3.base (by omega),hx⟩
theorem Es {r:CO} {v:Val} {w:World} (h:Rv w.heap r v) (b1:v.ps.length≤1000000) (b2:v.ts.length≤1000000) (b3:v.zs.length≤1000000) :
  Ctr Tryz.prog 162 [.agg (Dl.enc r).toArray] w (fun x w'=>∃r',x=.agg (Dl.enc r').toArray∧Rv w'.heap r' v∧OP w.heap.size r'∧QY w'.heap.size r'∧Ext w w'):=by
 rw [h.enc]
 refine (IJ h.s1 h.s2 h.s3 b1 b2 b3).mono ?_
 rintro x w' ⟨q1,d1,q2,d2,q3,d3,rfl,o1,o2,o3,hx⟩
 refine ⟨⟨v.kind,v.text,q1,v.ps.length,d1,q2,v.ts.length,d2,q3,v.zs.length,d3⟩,rfl,⟨rfl,rfl,rfl,rfl,rfl,o1.sl,o2.sl,o3.sl⟩,?_,?_,hx⟩
 ·rintro a (h|h|h)
  ·exact (o1.ge a.block (by simp only at h;rw [h];rfl)).1
  ·exact (o2.ge a.block (by simp only at h;rw [h];rfl)).1
  ·exact (o3.ge a.block (by simp only at h;rw [h];rfl)).1
 ·rintro a (h|h|h)
  ·exact (o1.ge a.block (by simp only at h;rw [h];rfl)).2
  ·exact (o2.ge a.block (by simp only at h;rw [h];rfl)).2
  ·exact (o3.ge a.block (by simp only at h;rw [h];rfl)).2
theorem Fs {fc:FuncId} {cap:Array Value} {n:Int} {pr:Int→Bool} {w:World} (h0:0≤n) (hn:n≤4611686018427387904)
  (hf:∀i w1,0≤i→i<n→Ext w w1→Ctr Tryz.prog fc ([]++[.int .i64 i]++cap.toList) w1 (fun v w'=>v=.bool (pr i)∧Ext w1 w')) :
  Ctr Tryz.prog 159 [.int .i64 n,.func (.func fc) #[] cap] w (fun v w'=>∃k,v=.int .i64 k∧0≤k∧k≤n∧(k=n∨pr k=true)∧(k=0∨pr (k - 1)=false)∧Ext w w'):=by
 refine Ac Tryz.func159 Tryz.ntmps159 rfl rfl rfl ?_
 repeat' (first|refine R1 ?_|refine R2 ?_|fail)
 refine Zh (ι:=Int × Int) (fun x=>[(1,.func (.func fc) #[] cap),(5,.int .i64 x.1),(6,.int .i64 x.2)])
  (fun x w'=>Ext w w'∧0≤x.1∧x.1≤x.2∧x.2≤n∧(x.2=n∨pr x.2=true)∧(x.1=0∨pr (x.1 - 1)=false)) (fun x=>(x.2 - x.1).toNat) (0,n) ⟨rfl,rfl,rfl,trivial⟩ ⟨Ext.rfl',by simp,by simpa using h0,by simp,.inl rfl,.inl rfl⟩ ?_
 rintro ⟨i,j⟩ w1 ⟨hx,hi,hij,hj,hp,hq⟩
 simp only at hi hij hj hp hq
 by_cases hlt:i<j
 ·repeat' (first|refine R1 ?_|(refine Q1 ?_;first|refine Q96 T.i3 T.i278 ?_|(refine PE (c:=2) ?_)|(refine Q95 rfl T.i278 T.i3 rfl (h1:=by omega) (h2:=by omega) ?_))|refine R2 ?_|(apply Za;exact rfl;all_goals (intro h;try (exfalso;omega)))|fail)
  refine Q1 ?_;refine Q22 (hc:=by exact hf ((i+j) / 2) w1 (by omega) (by omega) hx) ?_;rintro _ w2 ⟨rfl,hx2⟩;refine Kc ?_
  repeat' (first|refine R1 ?_|refine R2 ?_|(apply Zy;exact rfl;all_goals intro h)|fail)
  ·refine Zc ((i+j) / 2+1,j) ⟨rfl,rfl,rfl,trivial⟩ ⟨hx.trans hx2,by simp only;omega,by simp only;omega,hj,hp,.inr ?_⟩ (by simp only;omega)
   simp only [Int.add_sub_cancel]
   simpa using h
  ·refine Zc (i,(i+j) / 2) ⟨rfl,rfl,rfl,trivial⟩ ⟨hx.trans hx2,hi,by simp only;omega,by simp only;omega,.inr ?_,hq⟩ (by simp only;omega)
   simpa using h
 ·repeat' (first|refine R1 ?_|refine R2 ?_|(apply Za;exact rfl;all_goals (intro h;try (exfalso;omega)))|fail)
  refine Kr Tryz.results159 ?_
  have:i=j:=by omega
  subst this
  exact ⟨i,rfl,hi,hj,hp,hq,hx⟩
theorem CF {r:Aw} {v:Ver} {w:World} (h:Bv w.heap r v) (b1:v.val.ps.length≤1000000) (b2:v.val.ts.length≤1000000) (b3:v.val.zs.length≤1000000) :
  Ctr Tryz.prog 102 [.agg (AO.enc r).toArray] w (fun x w'=>∃r',x=.agg (AO.enc r').toArray∧Bv w'.heap r' v∧OP w.heap.size r'.raw∧QY w'.heap.size r'.raw∧Ext w w'):=by
 refine Ac Tryz.func102 Tryz.ntmps102 rfl rfl rfl ?_
 repeat' (refine R1 ?_)
 refine Q1 ?_;refine Q8 ?_;intro a1 w1 ha1 hA1 hx1 hs1
 replace hA1:Blk w1.heap a1 171 (AO.enc r):=hA1
 skip
 refine Q1 ?_;refine Q7 T.zero171 ?_;intro a2 w2 ha2 hA2 hx2 hs2
 replace hA1:=hA1.ext hx2
 have hv2:=(h.val.ext hx1).ext hx2
 repeat' (first|(refine Q1 ?_;first|(refine Q2 (hu:=T.f171_3) ?_)|(refine Q34 T.a169 (hb:=hA1) (hv:=Jy _) ?_))|refine R1 ?_|fail)
 refine Q1 ?_;refine Q4 (hc:=Es hv2 b1 b2 b3) ?_;rintro _ w3 ⟨r',rfl,hr',hn',ho',hx3⟩;refine Kc ?_
 replace hA1:=hA1.ext hx3
 replace hA2:=hA2.ext hx3
 have z3:=hx3.size
 repeat' (refine Q1 ?_;(refine Q2 (hu:=T.f171_3) ?_))
 refine Q1 ?_;refine Q5 T.z169 hA1 ?_;intro w4 hA1 hg4 hs4
 replace hA1:Blk w4.heap a1 171 (AO.enc ⟨r.stamp,r.gone,r.exp,r'⟩):=hA1
 have hx:Ext w w4:=((hx1.trans hx2).trans hx3).own hg4 (fun k hk=>by injection hk;omega)
 replace hr':=hr'.grown hg4 hn' (by omega)
 replace hA2:=hA2.grown hg4 (by simp;omega)
 repeat' (first|(refine Q1 ?_;refine Q11 T.a171 ?_)|refine R1 ?_|fail)
 refine Q1 ?_;refine Q5 T.z171 hA2 ?_;intro w5 hA2 hg5 hs5
 replace hA2:Blk w5.heap a2 171 (AO.enc ⟨r.stamp,r.gone,r.exp,r'⟩):=hA2
 replace hx:Ext w w5:=hx.own hg5 (fun k hk=>by injection hk;omega)
 replace hr':=hr'.grown hg5 hn' (by omega)
 replace hA1:=hA1.grown hg5 (by simp;omega)
 repeat' (first|refine R1 ?_|refine R2 ?_|fail)
 refine Ze Tryz.results102 ⟨_,_,_,rfl,rfl,Ae T.a171 (by assumption) rfl,rfl⟩ ?_
 exact ⟨⟨r.stamp,r.gone,r.exp,r'⟩,rfl,⟨h.stamp,h.gone,h.exp,hr'⟩,hn'.mono (by omega),ho'.mono (by omega),hx⟩
theorem Qk {p:Option Addr} {c:Nat} {rs:List Aw} {x:Aw} {s i:Int} {b1 b2:Nat} {w:World} (h1:Sl w.heap AO p c rs) (hA1:Blk w.heap b1 157 [.slice p rs.length c]) (hA2:Blk w.heap b2 3 [.int .i64 s]) (h0:0≤i) (hl:i<rs.length) (hx:rs[i.toNat]?=some x) :
  Ctr Tryz.prog 163 [.int .i64 i,.pointer (some (adr (bx b1) 0)),.pointer (some (adr (bx b2) 0))] w (fun v w'=>v=.bool (decide (s<x.stamp))∧Ext w w'):=by
 refine Ac Tryz.func163 Tryz.ntmps163 rfl rfl rfl ?_
 repeat' (first|refine R1 ?_|(refine Q1 ?_;first|(refine Q3 (hu:=by (first|exact T.p157|exact T.p3)) ?_)|(refine Q44 (hu:=T.p3) ?_)|refine Q25 T.s157 ?_|(refine Q2 (hu:=T.f171_0) ?_))|refine R2 ?_|refine Zf 1 [] [0,1,2,3,4,5,6,7] mixed (by decide +kernel) ?_|fail)
 refine Kr Tryz.results163 ?_
 exact ⟨rfl,Kz⟩
theorem Mk {p:Option Addr} {c:Nat} {rs:List Aw} {vs:List Ver} {s:Int} {w:World} (h:Bb w.heap p c rs vs) (hr:FR vs) (hl:vs.length≤1000) :
  Ctr Tryz.prog 100 [.slice p rs.length c,.int .i64 s] w (fun v w'=>∃n:Nat,v=.int .i64 n∧GQ vs s n∧Ext w w'):=by
 have hlen:=h.len
 refine Ac Tryz.func100 Tryz.ntmps100 rfl rfl rfl ?_
 repeat' (refine R1 ?_)
 refine Q1 ?_;refine Q8 ?_;intro a1 w1 ha1 hA1 hx1 hs1
 replace hA1:Blk w1.heap a1 157 [.slice p rs.length c]:=hA1
 skip
 refine Q1 ?_;refine Q8 ?_;intro a2 w2 ha2 hA2 hx2 hs2
 replace hA2:Blk w2.heap a2 3 [.int .i64 s]:=hA2
 replace hA1:=hA1.ext hx2
 have hx:=hx1.trans hx2
 have h2:=h.ext hx
 repeat' (first|refine R1 ?_|(refine Q1 ?_;first|(refine Q3 (hu:=T.p157) ?_)|(refine Q6 (hu:=T.s157) ?_))|refine R2 ?_|fail)
 refine Q1 ?_;refine Q4 (hc:=Fs (pr:=fun i=>decide (∃x,rs[i.toNat]?=some x∧s<x.stamp)) (n:=(rs.length:Int)) (fc:=163) (by omega) (by omega) (fun i w3 h0 hi hx3=>by
   obtain ⟨x,hxi⟩:=Aj (xs:=rs) (k:=i.toNat) (by omega)
   refine (Qk (h2.sl.ext hx3) (hA1.ext hx3) (hA2.ext hx3) h0 hi hxi).mono fun v w' ⟨hv,hx4⟩=>⟨?_,hx4⟩
   rw [hv,decide_eq_decide.2]
   exact ⟨fun e=>⟨x,hxi,e⟩,fun ⟨y,hy,e⟩=>by rw [hxi] at hy;injection hy with hy;rw [hy];exact e⟩)) ?_;rintro _ w3 ⟨n,rfl,hn0,hn1,hn2,hn3,hx3⟩;refine Kc ?_
 repeat' (first|refine R1 ?_|refine R2 ?_|fail)
 refine Kr Tryz.results100 ?_
 obtain ⟨m,rfl⟩:=Int.eq_ofNat_of_zero_le hn0
 refine ⟨m,rfl,⟨by omega,fun i v hi hv=>?_,fun i v hi hv=>?_⟩,Kz⟩
 ·have hlt:=AR hv
  rcases hn3 with e|e
  ·omega
  ·obtain ⟨r1,hr1⟩:=Aj (xs:=rs) (k:=m - 1) (by omega)
   obtain ⟨v1,hv1⟩:=Aj (xs:=vs) (k:=m - 1) (by omega)
   have e':=of_decide_eq_false e
   have hm:((m:Int) - 1).toNat=m - 1:=by omega
   rw [hm] at e'
   have hs1':¬s<r1.stamp:=fun hh=>e' ⟨r1,hr1,hh⟩
   rw [(h.get _ _ _ hr1 hv1).stamp] at hs1'
   rcases Nat.lt_or_ge i (m - 1) with h3|h3
   ·have:=hr.lt hv (m - 1 - (i+1)) v1 (by rw [← hv1];congr 1;omega)
    omega
   ·have:i=m - 1:=by omega
    subst this
    rw [hv] at hv1;injection hv1 with hv1;subst hv1;omega
 ·have hlt:=AR hv
  rcases hn2 with e|e
  ·omega
  ·obtain ⟨r1,hr1,hs1'⟩:=of_decide_eq_true e
   rw [Int.toNat_natCast] at hr1
   obtain ⟨v1,hv1⟩:=Aj (xs:=vs) (k:=m) (by have:=AR hr1;omega)
   rw [(h.get _ _ _ hr1 hv1).stamp] at hs1'
   rcases Nat.lt_or_ge m i with h3|h3
   ·have:=hr.lt hv1 (i - (m+1)) v (by rw [← hv];congr 1;omega)
    omega
   ·have:i=m:=by omega
    subst this
    rw [hv] at hv1;injection hv1 with hv1;subst hv1;omega
def EX:Aw:=⟨0,false,0,⟨0,⟨#[]⟩,none,0,0,none,0,0,none,0,0⟩⟩
theorem Gi (w:World):(Instr.build 171 [].toArray).run Tryz.prog w=.ok (.agg (AO.enc EX).toArray) w:=by kernel_rfl
theorem Vo {p:Option Addr} {c:Nat} {rs:List Aw} {vs:List Ver} {s:Int} {w:World} (h:Bb w.heap p c rs vs) (hr:FR vs) (hl:vs.length≤1000) (hb:∀v∈vs,v.val.ps.length≤1000000∧v.val.ts.length≤1000000∧v.val.zs.length≤1000000) :
  Ctr Tryz.prog 111 [.slice p rs.length c,.int .i64 s] w (fun x w'=>∃n r ok,x=.tuple #[.agg (AO.enc r).toArray,.bool ok]∧GQ vs s n∧Ext w w'∧(ok=true ↔ 0<n)∧(n=0→Bv w'.heap r ⟨0,false,0,⟨0,⟨#[]⟩,[],[],[]⟩⟩)∧∀v,0<n→vs[n - 1]?=some v→Bv w'.heap r v):=by
 have hlen:=h.len
 refine Ac Tryz.func111 Tryz.ntmps111 rfl rfl rfl ?_
 repeat' (refine R1 ?_)
 refine Q1 ?_;refine Q7 T.zero171 ?_;intro a1 w1 ha1 hA1 hx1 hs1
 have h1:=h.ext hx1
 repeat' (refine R1 ?_)
 refine Q1 ?_;refine Q4 (hc:=Mk h1 hr hl) ?_;rintro _ w2 ⟨n,rfl,hn,hx2⟩;refine Kc ?_
 replace hA1:=hA1.ext hx2
 replace h1:=h1.ext hx2
 have hx:=hx1.trans hx2
 have hn1:=hn.1
 have hsl:=h1.sl
 by_cases hn0:n=0
 ·subst hn0
  repeat' (first|refine R1 ?_|(refine Q1 ?_;(refine Q20 (.agg (AO.enc EX).toArray) Gi ?_))|refine R2 ?_|fail)
  refine Q1 ?_;refine Q5 T.z171 hA1 ?_;intro w3 hA1 hg3 hs3
  replace hA1:Blk w3.heap a1 171 (AO.enc EX):=hA1
  replace hx:Ext w w3:=hx.own hg3 (fun k hk=>by injection hk;omega)
  repeat' (first|refine R1 ?_|refine R2 ?_|fail)
  refine Ze Tryz.results111 ⟨_,_,_,rfl,rfl,Ae T.a171 (by assumption) rfl,_,_,rfl,rfl,rfl⟩ ?_
  exact ⟨0,EX,false,rfl,hn,hx,by simp,fun _=>⟨rfl,rfl,rfl,⟨rfl,rfl,rfl,rfl,rfl,Sl.nil,Sl.nil,Sl.nil⟩⟩,fun v h0=>by omega⟩
 ·obtain ⟨r,hri⟩:=Aj (xs:=rs) (k:=((n:Int) - 1).toNat) (by omega)
  obtain ⟨v,hvi⟩:=Aj (xs:=vs) (k:=n - 1) (by omega)
  have hrv:=h1.get (n - 1) r v (by rw [← hri];congr 1;omega) hvi
  obtain ⟨b1,b2,b3⟩:=hb v (List.mem_of_getElem? hvi)
  repeat' (first|refine R1 ?_|(refine Q1 ?_;first|refine Q25 T.s157 ?_|refine Q14 T.a171 ?_)|refine R2 ?_|(apply Za;exact rfl;all_goals (intro h;try (exfalso;omega)))|fail)
  refine Q1 ?_;refine Q4 (hc:=CF hrv b1 b2 b3) ?_;rintro _ w3 ⟨r',rfl,hr',hn',ho',hx3⟩;refine Kc ?_
  replace hA1:=hA1.ext hx3
  have z2:=hx2.size
  skip
  refine Q1 ?_;refine Q5 T.z171 hA1 ?_;intro w4 hA1 hg4 hs4
  replace hA1:Blk w4.heap a1 171 (AO.enc r'):=hA1
  replace hx:Ext w w4:=(hx.trans hx3).own hg4 (fun k hk=>by injection hk;omega)
  replace hr':Bv w4.heap r' v:=⟨hr'.stamp,hr'.gone,hr'.exp,hr'.val.grown hg4 hn' (by omega)⟩
  repeat' (first|refine R1 ?_|refine R2 ?_|fail)
  refine Ze Tryz.results111 ⟨_,_,_,rfl,rfl,Ae T.a171 (by assumption) rfl,_,_,rfl,rfl,rfl⟩ ?_
  refine ⟨n,r',true,rfl,hn,hx,by simp;omega,fun h0=>by omega,fun v' _ hv'=>?_⟩
  obtain rfl:v=v':=by rw [hvi] at hv';simpa using hv'
  exact hr'
theorem JD {r:Aw} {v:Ver} {clock:Int} {w:World} (h:Bv w.heap r v) :
  Ctr Tryz.prog 101 [.agg (AO.enc r).toArray,.int .i64 clock] w (fun x w'=>∃b,x=.bool b∧(b=true ↔ Eh v clock)∧Ext w w'):=by
 obtain ⟨s1,s2,s3,s4⟩:=h
 have e:Eh v clock ↔ r.gone=false∧(r.exp=0∨clock<r.exp):=⟨fun hh=>⟨by rw [s2];exact hh.here,by rw [s3];exact hh.exp⟩,fun hh=>⟨by rw [← s2];exact hh.1,by rw [← s3];exact hh.2⟩⟩
 rw [e]
 refine Ac Tryz.func101 Tryz.ntmps101 rfl rfl rfl ?_
 repeat' (refine R1 ?_)
 refine Q1 ?_;refine Q8 ?_;intro a1 w1 ha1 hA1 hx1 hs1
 replace hA1:Blk w1.heap a1 171 (AO.enc r):=hA1
 repeat' (first|refine R1 ?_|(refine Q1 ?_;first|(refine Q2 (hu:=by (first|exact T.f171_1|exact T.f171_2)) ?_)|(refine Q3 (hu:=by (first|exact T.p4|exact T.p3)) ?_))|refine R2 ?_|((fail_if_success (refine Q1 ?_));apply Zb;exact rfl;exact rfl;all_goals (intro h;try (exfalso;omega)))|((fail_if_success (refine Q1 ?_));apply ZW;exact rfl;exact rfl;all_goals intro h)|fail)
 all_goals
  refine Kr Tryz.results101 ?_
  refine ⟨_,rfl,?_,Kz⟩
  simp_all
def Dq (n:Nat) (q:Option Addr) (r:CO):Prop:=∀a:Addr,r.p1=some a∨r.p2=some a∨r.p3=some a→a.block<n∧blk q≠some a.block
theorem EL {r:CO} {v:Val} {w:World} (hC:Rv w.heap r v) (hf:Fits v) (hk1:v.kind=1) (hl:v.ps.length≤1000000∧v.ts.length≤1000000∧v.zs.length≤1000000) :
  Ctr Tryz.prog 109 [.agg (Dl.enc r).toArray] w (fun x w'=>∃b,x=.bool b∧(b=true ↔ GR v)∧Ext w w'):=by
 rw [hC.enc]
 obtain ⟨-,-,-,-,-,h1,h2,h3⟩:=hC
 obtain ⟨k,s,ps,ts,zs⟩:=v
 obtain ⟨f1,f2,f3,f4,f5⟩:=hf
 simp only at h1 h2 h3 f1 f2 f3 f4 f5 hl hk1 ⊢
 subst hk1
 generalize r.p1=p1 at *
 generalize r.p2=p2 at *
 generalize r.p3=p3 at *
 generalize r.c1=c1 at *
 generalize r.c2=c2 at *
 generalize r.c3=c3 at *
 refine Ac Tryz.func109 Tryz.ntmps109 rfl rfl rfl ?_
 repeat' (refine R1 ?_)
 refine Q1 ?_;refine Q8 ?_;intro a1 w1 ha1 hA1 hx1 hs1
 replace hA1:Blk w1.heap a1 169 [.int .i64 1,.string s,.slice p1 ps.length c1,.slice p2 ts.length c2,.slice p3 zs.length c3]:=hA1
 repeat' (first|refine R1 ?_|(refine Q1 ?_;refine Q11 T.a169 ?_)|fail)
 refine Q1 ?_;refine Q7 T.zero169 ?_;intro a2 w2 ha2 hA2 hx2 hs2
 replace hA1:=hA1.ext hx2
 skip
 refine Q1 ?_;refine Q5 T.z169 hA2 ?_;intro w3 hA2 hg3 hs3
 replace hA2:Blk w3.heap a2 169 [.int .i64 1,.string s,.slice p1 ps.length c1,.slice p2 ts.length c2,.slice p3 zs.length c3]:=hA2
 replace hA1:=hA1.grown hg3 (by simp;omega)
 have hx:Ext w w3:=(hx1.trans hx2).own hg3 (fun k hk=>by injection hk;omega)
 have g1:=h1.ext hx
 have g2:=h2.ext hx
 have g3:=h3.ext hx
 repeat' (first|refine R1 ?_|(refine Q1 ?_;first|(refine Q2 (hu:=T.f169_0) ?_)|(refine Q3 (hu:=T.p3) ?_))|refine R2 ?_|fail)
 refine Zf 3 [a2] [0,1,2,3,4,5,6] mixed (by decide +kernel) ?_
 repeat' (refine Q1 ?_;first|(refine Q2 (hu:=T.f169_1) ?_)|(refine Q31 (hu:=T.p9) ?_)|refine Q17 T.str9 ?_|refine Q108 rfl rfl rfl ?_)
 refine Q1 ?_;refine Q5 T.z9 hA2 ?_;intro w4 hA2 hg4 hs4
 replace hA2:Blk w4.heap a2 169 [.int .i64 1,.string ⟨#[]⟩,.slice p1 ps.length c1,.slice p2 ts.length c2,.slice p3 zs.length c3]:=hA2
 replace hx:Ext w w4:=hx.drew.own hg4 (fun k hk=>by injection hk;omega)
 repeat' (first|refine R1 ?_|(refine Q1 ?_;first|(refine Q2 (hu:=by (first|exact T.f169_1|exact T.f169_2|exact T.f169_3|exact T.f169_4)) ?_)|(refine Q3 (hu:=by (first|exact T.p9|exact T.p166|exact T.p61|exact T.p167)) ?_)|(refine Q6 (hu:=by (first|exact T.s166|exact T.s61|exact T.s167)) ?_))|refine R2 ?_|((fail_if_success (refine Q1 ?_));apply Zb;exact rfl;exact rfl;all_goals (intro h;try (exfalso;omega)))|fail)
 all_goals
  refine Kr Tryz.results109 ?_
  refine ⟨_,rfl,?_,hx⟩
  rw [MX]
 all_goals first
  | exact ⟨fun e=>absurd e Bool.false_ne_true,fun ⟨e1,_⟩=>by omega⟩
  | exact ⟨fun e=>⟨by omega,by have:=of_decide_eq_true e;omega,by have:=of_decide_eq_true e;omega,by have:=of_decide_eq_true e;omega⟩,fun e=>decide_eq_true (by omega)⟩
  | (simp_all;done)
def JB (v:Ver):Prop:=Ms v∧v.gone=false∧v.val.kind=1
structure Jz (v:Ver):Prop where
 gone:v.gone=true→v.exp=0∧v.val=val0
 here:v.gone=false→(0≤v.exp∧v.exp≤1099511627776)∧GR v.val
theorem Fg (v:Ver):Vl v ↔ 1≤v.stamp∧v.stamp≤1152921504606846975∧Jz v:=by
 constructor
 ·intro h
  exact ⟨h.lo,h.hi,h.gone,fun hg=>⟨⟨h.e0,h.e1⟩,h.here hg⟩⟩
 ·rintro ⟨h1,h2,h3,h4⟩
  cases hg:v.gone with
  | true =>
   have:=(h3 hg).1
   exact ⟨h1,h2,by omega,by omega,fun _=>h3 hg,fun h=>by rw [hg] at h;cases h⟩
  | false =>
   have:=(h4 hg).1
   exact ⟨h1,h2,by omega,by omega,(fun h=>by rw [hg] at h;cases h),fun _=>(h4 hg).2⟩
theorem MH {r:Aw} {v:Ver} {w:World} (hC:Bv w.heap r v) (hf:JB v) (hl:v.val.ps.length≤1000000∧v.val.ts.length≤1000000∧v.val.zs.length≤1000000) :
  Ctr Tryz.prog 347 [.agg (AO.enc r).toArray] w (fun x w'=>∃b,x=.bool b∧(b=true ↔ Jz v)∧Ext w w'):=by
 obtain ⟨s1,s2,s3,s4⟩:=hC
 refine Ac Tryz.func347 Tryz.ntmps347 rfl rfl rfl ?_
 repeat' (refine R1 ?_)
 refine Q1 ?_;refine Q8 ?_;intro a1 w1 ha1 hA1 hx1 hs1
 replace hA1:Blk w1.heap a1 171 (AO.enc r):=hA1
 replace s4:=s4.ext hx1
 have hg':r.gone=false:=s2.trans hf.2.1
 have hA2:Blk w1.heap a1 171 [.int .i64 r.stamp,.bool false,.int .i64 r.exp,.int .i64 r.raw.kind,.string r.raw.text,.slice r.raw.p1 r.raw.n1 r.raw.c1,.slice r.raw.p2 r.raw.n2 r.raw.c2,.slice r.raw.p3 r.raw.n3 r.raw.c3]:=by rw [← hg'];exact hA1
 clear hA1
 have hsub:(([.int .i64 r.stamp,.bool false,.int .i64 r.exp,.int .i64 r.raw.kind,.string r.raw.text,.slice r.raw.p1 r.raw.n1 r.raw.c1,.slice r.raw.p2 r.raw.n2 r.raw.c2,.slice r.raw.p3 r.raw.n3 r.raw.c3]:List Value).drop 3).take 5=Dl.enc r.raw:=rfl
 repeat' (first|refine R1 ?_|(refine Q1 ?_;first|(refine Q34 T.a169 (hb:=hA2) (hv:=hsub) ?_)|(refine Q4 (f:=109) (hc:=EL s4 hf.1.val hf.2.2 hl) ?_;rintro _ w3 ⟨b,rfl,hb,hx3⟩;refine Kc ?_)|(refine Q2 (hu:=by (first|exact T.f171_1|exact T.f171_2|exact T.f171_3)) ?_)|(refine Q3 (hu:=by (first|exact T.p4|exact T.p3)) ?_))|refine R2 ?_|((fail_if_success (refine Q1 ?_));apply Zb;exact rfl;exact rfl;all_goals (intro h;try (exfalso;omega)))|fail)
 all_goals
  refine Kr Tryz.results347 ?_
  refine ⟨_,rfl,⟨fun e=>?_,fun e=>?_⟩,Kz⟩
 all_goals first
  | (exfalso;revert e;exact Bool.false_ne_true)
  | (exfalso;have:=(e.here (by rw [← s2];exact hg')).1;omega)
  | exact ⟨(fun hh=>by rw [← s2,hg'] at hh;cases hh),fun _=>⟨by omega,hb.1 e⟩⟩
  | exact hb.2 (e.here (by rw [← s2];exact hg')).2
def lastOf (vs:List Ver) (k:Nat):Int:=if k=0 then 0 else match vs[k - 1]? with
 | some v=>v.stamp
 | none=>0
theorem SK {vs:List Ver} {k:Nat} {v:Ver} (hv:vs[k]?=some v) (hq:∀i,i<k→QT vs i):QT vs k ↔ lastOf vs k<v.stamp∧v.stamp≤1152921504606846975∧Jz v:=by
 have hlt:=AR hv
 constructor
 ·intro h
  obtain ⟨h1,h2⟩:=h v hv
  obtain ⟨g1,g2,g3⟩:=(Fg v).1 h1
  refine ⟨?_,g2,g3⟩
  unfold lastOf
  split
  ·omega
  ·rename_i h0
   obtain ⟨y,hy⟩:=Aj (xs:=vs) (k:=k - 1) (by omega)
   simp only [hy]
   exact h2 (by omega) y hy
 ·rintro ⟨h1,h2,h3⟩ x hx
  obtain rfl:v=x:=by rw [hv] at hx;simpa using hx
  unfold lastOf at h1
  by_cases h0:k=0
  ·rw [if_pos h0] at h1
   exact ⟨(Fg v).2 ⟨by omega,h2,h3⟩,fun h=>by omega⟩
  ·rw [if_neg h0] at h1
   obtain ⟨y,hy⟩:=Aj (xs:=vs) (k:=k - 1) (by omega)
   simp only [hy] at h1
   have:=(hq (k - 1) (by omega) y hy).1.lo
   refine ⟨(Fg v).2 ⟨by omega,h2,h3⟩,fun _ y' hy'=>?_⟩
   rw [hy] at hy'
   injection hy' with hy'
   rw [← hy'];exact h1
theorem QR {p:Option Addr} {c:Nat} {rs:List Aw} {vs:List Ver} {w:World} (hC:Bb w.heap p c rs vs) (hf:∀v∈vs,JB v) (hl:∀v∈vs,v.val.ps.length≤1000000∧v.val.ts.length≤1000000∧v.val.zs.length≤1000000) :
  Ctr Tryz.prog 241 [.slice p rs.length c] w (fun x w'=>∃b,x=.bool b∧(b=true ↔ EZ vs)∧Ext w w'):=by
 have n1:=hC.sl.bound
 have hlen:=hC.len
 refine Ac Tryz.func241 Tryz.ntmps241 rfl rfl rfl ?_
 repeat' (first|refine R1 ?_|(refine Q1 ?_;(refine Q6 (hu:=T.s157) ?_))|refine R2 ?_|fail)
 refine Zh (ι:=Nat) (fun k=>[(3,.int .i64 (lastOf vs k)),(6,.slice p rs.length c),(7,.int .i64 (rs.length:Int)),(8,.int .i64 k)]) (fun k w'=>Ext w w'∧k≤rs.length∧∀i,i<k→QT vs i) (fun k=>rs.length - k) 0 ⟨rfl,rfl,rfl,rfl,trivial⟩ ⟨Kz,by omega,fun i hi=>by omega⟩ ?_
 intro k w1 ⟨hx,hk,hq⟩
 have h1:=hC.ext hx
 have hs1:=h1.sl
 have z1:=hx.size
 by_cases hlt:k<rs.length
 ·obtain ⟨r,hr⟩:=Aj hlt
  obtain ⟨v,hv⟩:=Aj (xs:=vs) (k:=k) (by omega)
  have hmem:=List.mem_of_getElem? hv
  have hst:=SK hv hq
  have hlast:lastOf vs (k+1)=r.stamp:=by
   have:=(h1.get k r v hr hv).stamp
   unfold lastOf
   simp [hv,this]
  repeat' (first|(refine Q1 ?_;first|refine Q13 T.s157 ?_|refine Q14 T.a171 ?_)|refine R1 ?_|refine R2 ?_|(apply Za;exact rfl;all_goals (intro h;try (exfalso;omega)))|fail)
  refine Q1 ?_;refine Q7 T.zero171 ?_;intro a2 w2 ha2 hA2 hx2 hs2
  replace hs1:=hs1.ext hx2
  skip
  refine Q1 ?_;refine Q5 T.z171 hA2 ?_;intro w3 hA2 hg3 hs3
  replace hA2:Blk w3.heap a2 171 (AO.enc r):=hA2
  replace hx:Ext w w3:=(hx.trans hx2).own hg3 (fun k hk=>by injection hk;omega)
  have hrv:=(hC.ext hx).get k r v hr hv
  have hrs:=hrv.stamp
  repeat' (first|refine R1 ?_|(refine Q1 ?_;first|(refine Q4 (f:=347) (hc:=MH hrv (hf v hmem) (hl v hmem)) ?_;rintro _ w4 ⟨b,rfl,hb,hx4⟩;refine Kc ?_;replace hA2:=hA2.ext (Kx hx4))|refine Q11 T.a171 ?_|(refine Q2 (hu:=T.f171_0) ?_)|(refine Q3 (hu:=T.p3) ?_))|refine R2 ?_|(apply Zy;exact rfl;all_goals intro h)|((fail_if_success (refine Q1 ?_));apply Zb;exact rfl;exact rfl;all_goals (intro h;try (exfalso;omega)))|fail)
  ·refine Kr Tryz.results241 ?_
   exact ⟨_,rfl,⟨fun e=>absurd e Bool.false_ne_true,fun e=>by have:=(hst.1 (e k (by omega))).1;omega⟩,Kz⟩
  ·refine Kr Tryz.results241 ?_
   exact ⟨_,rfl,⟨fun e=>absurd e Bool.false_ne_true,fun e=>by have:=(hst.1 (e k (by omega))).2.1;omega⟩,Kz⟩
  ·refine Kr Tryz.results241 ?_
   exact ⟨_,rfl,⟨fun e=>absurd e Bool.false_ne_true,fun e=>by have:=hb.2 (hst.1 (e k (by omega))).2.2;simp_all⟩,Kz⟩
  ·refine Zc (k+1) ⟨by rw [hlast];rfl,rfl,rfl,rfl,trivial⟩ ⟨Kz,by omega,Tq hq (hst.2 ⟨by omega,by omega,hb.1 (by simpa using h)⟩)⟩ (by omega)
 ·repeat' (first|refine R1 ?_|refine R2 ?_|(apply Za;exact rfl;all_goals (intro h;try (exfalso;omega)))|fail)
  refine Kr Tryz.results241 ?_
  exact ⟨_,rfl,⟨fun _ i hi=>hq i (by omega),fun _=>rfl⟩,Kz⟩
theorem Nv {p:Option Addr} {c:Nat} {rs:List Aw} {vs:List Ver} {w:World} (hC:Bb w.heap p c rs vs) (hf:∀v∈vs,JB v) (hl:∀v∈vs,v.val.ps.length≤1000000∧v.val.ts.length≤1000000∧v.val.zs.length≤1000000) :
  Ctr Tryz.prog 184 [.slice p rs.length c] w (fun x w'=>∃b,x=.bool b∧(b=true ↔ vs.length≤64∧EZ vs)∧Ext w w'):=by
 have hlen:=hC.len
 refine Ac Tryz.func184 Tryz.ntmps184 rfl rfl rfl ?_
 repeat' (first|refine R1 ?_|(refine Q1 ?_;first|(refine Q4 (f:=241) (hc:=QR hC hf hl) ?_;rintro _ w2 ⟨b,rfl,hb,hx2⟩;refine Kc ?_)|(refine Q6 (hu:=T.s157) ?_))|refine R2 ?_|((fail_if_success (refine Q1 ?_));apply Zb;exact rfl;exact rfl;all_goals (intro h;try (exfalso;omega)))|fail)
 ·refine Kr Tryz.results184 ?_
  exact ⟨_,rfl,⟨fun e=>⟨by omega,hb.1 e⟩,fun e=>hb.2 e.2⟩,Kz⟩
 ·refine Kr Tryz.results184 ?_
  exact ⟨_,rfl,⟨fun e=>absurd e Bool.false_ne_true,fun e=>by have:=e.1;omega⟩,Kz⟩
theorem MC {p:Option Addr} {c:Nat} {rs:List Aw} {vs:List Ver} {w:World} (hC:Bb w.heap p c rs vs) (hl:vs.length≤1000) :
  Ctr Tryz.prog 447 [.slice p rs.length c] w (fun x w'=>x=.int .i64 (lastOf vs vs.length)∧w=w'):=by
 have hlen:=hC.len
 have hs:=hC.sl
 refine Ac Tryz.func447 Tryz.ntmps447 rfl rfl rfl ?_
 by_cases h0:rs.length=0
 ·repeat' (first|refine R1 ?_|(refine Q1 ?_;(refine Q6 (hu:=T.s157) ?_))|refine R2 ?_|(apply Za;exact rfl;all_goals (intro h;try (exfalso;omega)))|fail)
  all_goals try (exfalso;omega)
  refine Kr Tryz.results447 ?_
  have:vs=[]:=List.eq_nil_of_length_eq_zero (by omega)
  subst this
  exact ⟨rfl,rfl⟩
 ·obtain ⟨r,hr⟩:=Aj (xs:=rs) (k:=((rs.length:Int) - 1).toNat) (by omega)
  obtain ⟨v,hv⟩:=Aj (xs:=vs) (k:=vs.length - 1) (by omega)
  have hrv:=hC.get (vs.length - 1) r v (by rw [← hr];congr 1;omega) hv
  repeat' (first|refine R1 ?_|(refine Q1 ?_;first|(refine Q6 (hu:=T.s157) ?_)|refine Q25 T.s157 ?_|(refine Q2 (hu:=T.f171_0) ?_)|(refine Q44 (hu:=T.p3) ?_))|refine R2 ?_|(apply Za;exact rfl;all_goals (intro h;try (exfalso;omega)))|fail)
  all_goals try (exfalso;omega)
  refine Kr Tryz.results447 ?_
  refine ⟨?_,rfl⟩
  have hne:vs.length≠0:=by omega
  simp [Cj,lastOf,hne,hv,hrv.stamp]
structure FO (B:Nat) (w:World) (p:Option Addr) (c:Nat) (rs:List Aw) (vs:List Ver):Prop where
 own:Go.V.Own w B 171 AO p c rs
 len:rs.length=vs.length
 base:B≤w.heap.size
 get:∀(i:Nat) r v,rs[i]?=some r→vs[i]?=some v→Bv w.heap r v∧Dq w.heap.size p r.raw
theorem FO.at {B:Nat} {w:World} {p:Option Addr} {c:Nat} {rs:List Aw} {vs:List Ver} (h:FO B w p c rs vs):Bb w.heap p c rs vs:=⟨h.own.sl,h.len,fun i r v h1 h2=>(h.get i r v h1 h2).1⟩
theorem FO.push {B:Nat} {w w1 w2:World} {p p':Option Addr} {c c':Nat} {rs:List Aw} {vs:List Ver} {r:Aw} {v:Ver} (h:FO B w p c rs vs) (hx:Ext w w1) (hr:Bv w1.heap r v) (hn:OP w.heap.size r.raw) (ho:QY w1.heap.size r.raw)
  (ha:App w1 w2 B 171 AO p p' c' (rs++[r])):FO B w2 p' c' (rs++[r]) (vs++[v]):=by
 have zb:=ha.grown.size
 have hnew:=ha.new
 unfold BK at hnew
 have hqlt:∀k,blk p=some k→k<w.heap.size:=fun k hk=>(h.own.ge k hk).2
 have hz:=hx.size
 have step:∀(s:Aw) (u:Ver),Bv w1.heap s u→Dq w1.heap.size p s.raw→Bv w2.heap s u∧Dq w2.heap.size p' s.raw:=by
  intro s u hs ha'
  refine ⟨⟨hs.stamp,hs.gone,hs.exp,hs.val.grownN ha.grown (fun a h'=>(ha' a h').2)⟩,fun a h'=>⟨by have:=(ha' a h').1;omega,fun e=>?_⟩⟩
  rcases hnew with hn|hn
  ·exact (ha' a h').2 (by rw [← hn];exact e)
  ·have h1:=hn _ e
   have h2:=(ha' a h').1
   omega
 refine ⟨ha.own,by simp [h.len],ha.base,?_⟩
 intro i s u hi hu
 by_cases hij:i<rs.length
 ·rw [List.getElem?_append_left hij] at hi
  rw [List.getElem?_append_left (by have:=h.len;omega)] at hu
  obtain ⟨g1,g2⟩:=h.get i s u hi hu
  exact step s u (g1.ext hx) (fun a ha=>⟨by have:=(g2 a ha).1;omega,(g2 a ha).2⟩)
 ·have hl:=h.len
  have h1:=AR hi
  simp at h1
  obtain rfl:i=rs.length:=by omega
  rw [List.getElem?_append_right (by omega)] at hi
  rw [List.getElem?_append_right (by omega),← hl] at hu
  simp at hi hu
  subst hi hu
  refine step _ _ hr (fun a ha=>⟨ho a ha,fun e=>?_⟩)
  have:=hqlt _ e
  have:=hn a ha
  omega
theorem Ru {p q:Option Addr} {c d:Nat} {rs ss:List Aw} {vs us:List Ver} {w:World} (hC:Bb w.heap p c rs vs) (hD:Bb w.heap q d ss us) (hlen:(vs++us).length≤64) (hR:EZ (vs++us)) (hf:∀v∈vs++us,JB v)
  (hb:∀v∈vs++us,v.val.ps.length≤1000000∧v.val.ts.length≤1000000∧v.val.zs.length≤1000000) :
  Ctr Tryz.prog 244 [.slice p rs.length c,.slice q ss.length d] w (fun x w'=>∃p' c' rs',x=.tuple #[.slice p' rs'.length c',.int .i64 0]∧Go.V.Own w' w.heap.size 171 AO p' c' rs'∧Bb w'.heap p' c' rs' (vs++us)∧Ext w w'):=by
 have l1:=hC.len
 have l2:=hD.len
 have lv:vs.length+us.length≤64:=by simpa using hlen
 refine Ac Tryz.func244 Tryz.ntmps244 rfl rfl rfl ?_
 repeat' (first|refine R1 ?_|(refine Q1 ?_;(refine Q6 (hu:=T.s157) ?_))|refine R2 ?_|fail)
 refine Q1 ?_
 refine Q28 AO T.s157 ?_
 intro p2 w2 ho2 hx2 hz2
 repeat' (first|refine R1 ?_|(refine Q1 ?_;(refine Q6 (hu:=T.s157) ?_))|refine R2 ?_|fail)
 refine Zh (ι:=Nat × List Aw × Option Addr × Nat) (fun y=>[(1,.slice q ss.length d),(6,.slice y.2.2.1 y.2.1.length y.2.2.2),(17,.slice p rs.length c),(18,.int .i64 (rs.length:Int)),(19,.int .i64 (y.1:Int))])
  (fun y w'=>Ext w w'∧y.1≤rs.length∧FO w.heap.size w' y.2.2.1 y.2.2.2 y.2.1 (vs.take y.1)) (fun y=>rs.length - y.1) (0,[],p2,_)
  ⟨rfl,rfl,rfl,rfl,rfl,trivial⟩ ⟨hx2,Nat.zero_le _,⟨ho2,rfl,hx2.size,fun i r v h1=>by simp at h1⟩⟩ ?_
 rintro ⟨k,ro,po,co⟩ w3 ⟨hx3,hk,hO⟩
 simp only at hk hO
 by_cases hlt:k<rs.length
 ·obtain ⟨r,hr⟩:=Aj hlt
  obtain ⟨v,hv⟩:=Aj (xs:=vs) (k:=k) (by omega)
  have hrv:=(hC.ext hx3).get k r v hr hv
  obtain ⟨b1,b2,b3⟩:=(fun v hv=>hb v (List.mem_append_left _ hv)) v (List.mem_of_getElem? hv)
  have z3:=hx3.size
  have hS3:=(hC.ext hx3).sl
  repeat' (first|(refine Q1 ?_;first|refine Q13 T.s157 ?_|refine Q14 T.a171 ?_)|refine R1 ?_|refine R2 ?_|(apply Za;exact rfl;all_goals (intro h;try (exfalso;omega)))|fail)
  refine Q1 ?_;refine Q7 T.zero171 ?_;intro a4 w4 ha4 hA4 hx4 hs4
  replace hS3:=hS3.ext hx4
  skip
  refine Q1 ?_;refine Q5 T.z171 hA4 ?_;intro w5 hA5 hg5 hs5
  replace hA5:Blk w5.heap a4 171 (AO.enc r):=hA5
  have hx5:Ext w3 w5:=hx4.own hg5 (fun k hk=>by injection hk;omega)
  have hx5s:=hx5.size
  repeat' (first|refine R1 ?_|(refine Q1 ?_;refine Q11 T.a171 ?_)|fail)
  refine Q1 ?_;refine Q4 (hc:=CF (hrv.ext hx5) b1 b2 b3) ?_;rintro _ w6 ⟨r',rfl,hr',hn',ho',hx6⟩;refine Kc ?_
  skip
  refine Q1 ?_
  refine Q12 AO r' T.s157 ?_
  intro p7 w7 hp7 hs7 _ hx7 hz7
  have hx37:Ext w3 w7:=(hx5.trans hx6).trans hx7
  have hO7:=hO.own.ext hx37
  have hal:=hO.len
  have hb7:=hO.base
  have hz37:=hx37.size
  have hx7s:=hx7.size
  repeat' (first|refine R1 ?_|(refine Q1 ?_;(refine Q16 T.s157 hO7 hs7 (hlen:=by (simp;simp at hal;omega)) (hmax:=by (simp;simp at hal;omega)) ?_;intro pb cb wb hab))|refine R2 ?_|fail)
  have hO8:=hO.push hx37 (hr'.ext hx7) (hn'.mono hx5s) (ho'.mono hx7s) hab
  have hx8:Ext w wb:=(hx3.trans hx37).app hab (fun k hk=>(hO7.ge k hk).1)
  exact Zc (k+1,ro++[r'],pb,cb) ⟨rfl,rfl,rfl,rfl,rfl,trivial⟩ ⟨hx8,by simp only;omega,by simp only;rw [AJ hv];exact hO8⟩ (by simp only;omega)
 ·obtain rfl:k=rs.length:=by omega
  rw [l1,List.take_length] at hO
  have hxA:=hx3
  have hS3':=(hD.ext hx3).sl
  repeat' (first|refine R1 ?_|(refine Q1 ?_;(refine Q6 (hu:=T.s157) ?_))|refine R2 ?_|(apply Za;exact rfl;all_goals (intro h;try (exfalso;omega)))|fail)
  all_goals try (exfalso;omega)
  refine Zh (ι:=Nat × List Aw × Option Addr × Nat) (fun y=>[(6,.slice y.2.2.1 y.2.1.length y.2.2.2),(29,.slice q ss.length d),(30,.int .i64 (ss.length:Int)),(31,.int .i64 (y.1:Int))])
   (fun y w'=>Ext w w'∧y.1≤ss.length∧FO w.heap.size w' y.2.2.1 y.2.2.2 y.2.1 (vs++us.take y.1)) (fun y=>ss.length - y.1) (0,ro,po,co)
   ⟨rfl,rfl,rfl,rfl,trivial⟩ ⟨hxA,Nat.zero_le _,by simpa using hO⟩ ?_
  clear hO hx3 hxA hS3'
  rintro ⟨k,ro,po,co⟩ w3 ⟨hx3,hk,hO⟩
  simp only at hk hO
  by_cases hlt:k<ss.length
  ·obtain ⟨r,hr⟩:=Aj hlt
   obtain ⟨v,hv⟩:=Aj (xs:=us) (k:=k) (by omega)
   have hrv:=(hD.ext hx3).get k r v hr hv
   obtain ⟨b1,b2,b3⟩:=(fun v hv=>hb v (List.mem_append_right _ hv)) v (List.mem_of_getElem? hv)
   have z3:=hx3.size
   have hS3:=(hD.ext hx3).sl
   repeat' (first|(refine Q1 ?_;first|refine Q13 T.s157 ?_|refine Q14 T.a171 ?_)|refine R1 ?_|refine R2 ?_|(apply Za;exact rfl;all_goals (intro h;try (exfalso;omega)))|fail)
   refine Q1 ?_;refine Q7 T.zero171 ?_;intro a4 w4 ha4 hA4 hx4 hs4
   replace hS3:=hS3.ext hx4
   skip
   refine Q1 ?_;refine Q5 T.z171 hA4 ?_;intro w5 hA5 hg5 hs5
   replace hA5:Blk w5.heap a4 171 (AO.enc r):=hA5
   have hx5:Ext w3 w5:=hx4.own hg5 (fun k hk=>by injection hk;omega)
   have hx5s:=hx5.size
   repeat' (first|refine R1 ?_|(refine Q1 ?_;refine Q11 T.a171 ?_)|fail)
   refine Q1 ?_;refine Q4 (hc:=CF (hrv.ext hx5) b1 b2 b3) ?_;rintro _ w6 ⟨r',rfl,hr',hn',ho',hx6⟩;refine Kc ?_
   skip
   refine Q1 ?_
   refine Q12 AO r' T.s157 ?_
   intro p7 w7 hp7 hs7 _ hx7 hz7
   have hx37:Ext w3 w7:=(hx5.trans hx6).trans hx7
   have hO7:=hO.own.ext hx37
   have hal:=hO.len
   have hb7:=hO.base
   have hz37:=hx37.size
   have hx7s:=hx7.size
   repeat' (first|refine R1 ?_|(refine Q1 ?_;(refine Q16 T.s157 hO7 hs7 (hlen:=by (simp;simp at hal;omega)) (hmax:=by (simp;simp at hal;omega)) ?_;intro pb cb wb hab))|refine R2 ?_|fail)
   have hO8:=hO.push hx37 (hr'.ext hx7) (hn'.mono hx5s) (ho'.mono hx7s) hab
   have hx8:Ext w wb:=(hx3.trans hx37).app hab (fun k hk=>(hO7.ge k hk).1)
   exact Zc (k+1,ro++[r'],pb,cb) ⟨rfl,rfl,rfl,rfl,trivial⟩ ⟨hx8,by simp only;omega,by simp only;rw [AJ hv,← List.append_assoc];exact hO8⟩ (by simp only;omega)
  ·obtain rfl:k=ss.length:=by omega
   rw [l2,List.take_length] at hO
   have hal:=hO.len
   rw [List.length_append] at hal
   refine Zn [(6,.slice po ro.length co),(29,.slice q ss.length d),(30,.int .i64 (ss.length:Int)),(31,.int .i64 (ss.length:Int))] ⟨rfl,rfl,rfl,rfl,trivial⟩ ?_
   repeat' (first|refine R1 ?_|(refine Q1 ?_;first|(refine Q4 (f:=241) (hc:=QR hO.at hf hb) ?_;rintro _ w4 ⟨b,rfl,hb4,hx4⟩;refine Kc ?_)|(refine Q6 (hu:=T.s157) ?_))|refine R2 ?_|(apply Za;exact rfl;all_goals (intro h;try (exfalso;omega)))|(apply Zy;exact rfl;all_goals intro h)|fail)
   ·exfalso
    have:=hb4.2 hR
    simp_all
   all_goals try (exfalso;omega)
   ·refine Kr Tryz.results244 ?_
    exact ⟨po,co,ro,rfl,hO.own.ext hx4,hO.at.ext hx4,hx3.trans hx4⟩
theorem Own.keptT {α:Type} {e:Enc α} {w w':World} {B T T':Nat} {p:Option Addr} {c:Nat} {xs:List α} {row:Option Nat} (h:Go.V.Own w B T e p c xs) (hg:w.grownBy w' row) (hr:∀k,row=some k→∃cur fr,w.heap[k]?=some (.cells cur T' fr)) (hT:T≠T'):Go.V.Own w' B T e p c xs:=by
 refine Go.V.Own.kept h hg fun a ha e=>?_
 obtain ⟨cur,fr,h1⟩:=hr _ e
 obtain ⟨cur',h2⟩:=Go.V.Own.at h (k:=a.block) (by rw [ha];rfl)
 rw [h1] at h2
 injection h2 with h2
 injection h2 with _ h2
 exact hT h2.symm
theorem RvF.keptV {w w':World} {F:Nat→Prop} {r:CO} {v:Val} {row:Option Nat} (h:RvF w F r v) (hg:w.grownBy w' row) (hr:∀k,row=some k→∃cur fr,w.heap[k]?=some (.cells cur 171 fr)):RvF w' F r v :=
 ⟨h.kind,h.text,h.n1,h.n2,h.n3,Own.keptT h.o1 hg hr (by decide),Own.keptT h.o2 hg hr (by decide),Own.keptT h.o3 hg hr (by decide),h.f⟩
theorem RvF.ext {w w':World} {F:Nat→Prop} {r:CO} {v:Val} (h:RvF w F r v) (hx:Ext w w'):RvF w' F r v:=h.chg (G:=fun _=>False) (Chg.ext hx) (fun _ _ h=>h)
theorem QM:¬ixT 171∧¬ixT 285∧¬ixT 9∧¬ixT 287:=by unfold ixT;decide
theorem AX.typed {w:World} {F:Nat→Prop} {p:Option Addr} {c:Nat} {rs:List Aw} {vs:List Ver} (h:AX w F p c rs vs):AX w (fun k=>F k∧NoB w k) p c rs vs :=
 ⟨h.own,fun k hk=>⟨h.f k hk,Own.noB h.own QM.1 hk⟩,h.len,fun i r v h1 h2=>by
  obtain ⟨a,b,d,e⟩:=h.get i r v h1 h2
  refine ⟨a,b,d,e.kind,e.text,e.n1,e.n2,e.n3,e.o1,e.o2,e.o3,fun k hk=>⟨e.f k hk,?_⟩⟩
  rcases hk with hk|hk|hk
  ·exact Own.noB e.o1 QM.2.1 hk
  ·exact Own.noB e.o2 QM.2.2.1 hk
  ·exact Own.noB e.o3 QM.2.2.2 hk⟩
theorem Hg {p:Option Addr} {c n:Nat} {rs:List Aw} {vs:List Ver} {w:World} (hC:Bb w.heap p c rs vs) (hs:Fu vs) (hn:vs.length=n) :
  Ctr Tryz.prog 99 [.slice p n c] w (fun v w'=>∃p' c' rs',v=.slice p' n c'∧AX w' (fun k=>w.heap.size≤k∧NoB w' k) p' c' rs' vs∧Ext w w'):=by
 have hlen:=hC.len
 have hs0:=hs.1
 obtain rfl:rs.length=n:=by omega
 refine Ac Tryz.func99 Tryz.ntmps99 rfl rfl rfl ?_
 repeat' (first|refine R1 ?_|(refine Q1 ?_;(refine Q6 (hu:=T.s157) ?_))|fail)
 refine Q1 ?_
 refine Q28 AO T.s157 ?_
 intro p2 w2 ho2 hx2 hz2
 repeat' (first|refine R1 ?_|(refine Q1 ?_;(refine Q6 (hu:=T.s157) ?_))|refine R2 ?_|fail)
 refine Zh (ι:=Nat × List Aw × Option Addr × Nat) (fun y=>[(3,.slice y.2.2.1 y.2.1.length y.2.2.2),(9,.slice p rs.length c),(10,.int .i64 (rs.length:Int)),(11,.int .i64 (y.1:Int))])
  (fun y w'=>Ext w w'∧y.1≤rs.length∧y.2.1.length=y.1∧Go.V.Own w' w.heap.size 171 AO y.2.2.1 y.2.2.2 y.2.1∧∀(i:Nat) r v,y.2.1[i]?=some r→vs[i]?=some v→r.stamp=v.stamp∧r.gone=v.gone∧r.exp=v.exp∧RvF w' (fun k=>w.heap.size≤k) r.raw v.val) (fun y=>rs.length - y.1) (0,[],p2,_)
  ⟨rfl,rfl,rfl,rfl,trivial⟩ ⟨hx2,Nat.zero_le _,rfl,ho2,fun i r v h1=>by simp at h1⟩ ?_
 rintro ⟨k,ro,po,co⟩ w3 ⟨hx3,hk,hrl,hO,hA⟩
 simp only at hk hrl hO hA
 refine Zn [(3,.slice po ro.length co),(9,.slice p rs.length c),(10,.int .i64 (rs.length:Int)),(11,.int .i64 (k:Int))] ⟨rfl,rfl,rfl,rfl,trivial⟩ ?_
 have hC3:=hC.ext hx3
 have hS3:=hC3.sl
 have z3:=hx3.size
 by_cases hlt:k<rs.length
 ·obtain ⟨r,hr⟩:=Aj hlt
  obtain ⟨v,hv⟩:=Aj (xs:=vs) (k:=k) (by omega)
  have hrv:=hC3.get k r v hr hv
  obtain ⟨b1,b2,b3⟩:=hs.2 v (List.mem_of_getElem? hv)
  repeat' (first|(refine Q1 ?_;first|refine Q13 T.s157 ?_|refine Q14 T.a171 ?_)|refine R1 ?_|refine R2 ?_|(apply Za;exact rfl;all_goals (intro h;try (exfalso;omega)))|fail)
  refine Q1 ?_;refine Q7 T.zero171 ?_;intro a4 w4 ha4 hA4 hx4 hs4
  have hS4:=hS3.ext hx4
  skip
  refine Q1 ?_;refine Q5 T.z171 hA4 ?_;intro w5 hA5 hg5 hs5
  replace hA5:Blk w5.heap a4 171 (AO.enc r):=hA5
  have hx5:Ext w3 w5:=hx4.own hg5 (fun k hk=>by injection hk;omega)
  have hrv5:=(hrv.ext hx5).val
  repeat' (first|(refine Q1 ?_;first|(refine Q34 T.a169 (hb:=hA5) (hv:=Jy _) ?_)|(refine Q2 (hu:=T.f171_3) ?_))|refine R1 ?_|fail)
  rw [hrv5.enc]
  refine Q1 ?_;refine Q4 (hc:=IJ hrv5.s1 hrv5.s2 hrv5.s3 b1 b2 b3) ?_;rintro _ w6 ⟨q1,d1,q2,d2,q3,d3,rfl,o1,o2,o3,hx6⟩;refine Kc ?_
  replace hA5:=hA5.ext hx6
  have hx36:=hx5.trans hx6
  have z6:=hx6.size
  have z5:=hx5.size
  repeat' (refine Q1 ?_;(refine Q2 (hu:=T.f171_3) ?_))
  refine Q1 ?_;refine Q5 T.z169 hA5 ?_;intro w7 hA7 hg7 hs7
  obtain ⟨r',hr'⟩:∃r':Aw,r'=⟨r.stamp,r.gone,r.exp,⟨v.val.kind,v.val.text,q1,v.val.ps.length,d1,q2,v.val.ts.length,d2,q3,v.val.zs.length,d3⟩⟩:=⟨_,rfl⟩
  replace hA7:Blk w7.heap a4 171 (AO.enc r'):=by rw [hr'];exact hA7
  have hrow:∀k,some a4=some k→∃cur fr,w6.heap[k]?=some (.cells cur 171 fr):=fun k hk=>by
   injection hk with hk;subst hk
   unfold Blk at hA5;exact ⟨_,_,hA5⟩
  have hx37:Ext w3 w7:=hx36.own hg7 (fun k hk=>by injection hk;omega)
  have z7:=hx37.size
  have hF:RvF w7 (fun k=>w.heap.size≤k) r'.raw v.val:=by
   rw [hr']
   refine ⟨rfl,rfl,rfl,rfl,rfl,(Own.keptT o1 hg7 hrow (by decide)).base (Nat.zero_le _),(Own.keptT o2 hg7 hrow (by decide)).base (Nat.zero_le _),(Own.keptT o3 hg7 hrow (by decide)).base (Nat.zero_le _),fun k hk=>?_⟩
   rcases hk with hk|hk|hk
   ·have:=(o1.ge k hk).1;show w.heap.size≤k;omega
   ·have:=(o2.ge k hk).1;show w.heap.size≤k;omega
   ·have:=(o3.ge k hk).1;show w.heap.size≤k;omega
  have hO7:=hO.ext hx37
  repeat' (first|refine R1 ?_|(refine Q1 ?_;refine Q11 T.a171 ?_)|fail)
  refine Q1 ?_
  refine Q12 AO r' T.s157 ?_
  intro p8 w8 hp8 hs8 _ hx8 hz8
  have hO8:=hO7.ext hx8
  repeat' (first|refine R1 ?_|(refine Q1 ?_;(refine Q16 T.s157 hO8 hs8 (xs:=ro) (ys:=[r']) ?_;intro p9 c9 w9 ha9))|refine R2 ?_|fail)
  have hx38:=hx37.trans hx8
  have hx9:Ext w w9:=(hx3.trans hx38).app ha9 (fun j hj=>(hO8.ge j hj).1)
  have hrow9:∀k,blk po=some k→∃cur fr,w8.heap[k]?=some (.cells cur 171 fr):=fun k hk=>by
   obtain ⟨cur,h1⟩:=hO8.at hk;exact ⟨cur,_,h1⟩
  refine Zc (k+1,ro++[r'],p9,c9) ⟨rfl,rfl,rfl,rfl,trivial⟩ ⟨hx9,by simp only;omega,by simp only [List.length_append,List.length_cons,List.length_nil];omega,ha9.own,fun i x y h1 h2=>?_⟩ (by simp only;omega)
  simp only at h1
  by_cases hi:i<ro.length
  ·rw [List.getElem?_append_left hi] at h1
   obtain ⟨g1,g2,g3,g4⟩:=hA i x y h1 h2
   exact ⟨g1,g2,g3,(g4.ext hx38).keptV ha9.grown hrow9⟩
  ·have hi2:i=k:=by have:=AR h1;simp at this;omega
   subst hi2
   rw [List.getElem?_append_right (by omega),hrl,Nat.sub_self] at h1
   simp at h1
   subst h1
   rw [hv] at h2
   injection h2 with h2
   subst h2
   refine ⟨by rw [hr'];exact hrv.stamp,by rw [hr'];exact hrv.gone,by rw [hr'];exact hrv.exp,(hF.ext hx8).keptV ha9.grown hrow9⟩
 ·obtain rfl:k=rs.length:=by omega
  repeat' (first|refine R1 ?_|refine R2 ?_|(apply Za;exact rfl;all_goals (intro h;try (exfalso;omega)))|fail)
  refine Kr Tryz.results99 ?_
  refine ⟨po,co,ro,by rw [hrl];rfl,AX.typed (F:=fun k=>w.heap.size≤k) ⟨hO.base (Nat.zero_le _),fun k hk=>(hO.ge k hk).1,by omega,hA⟩,hx3⟩
end Go.Proofs.YtkcolpfanmdmiaaGreatDoor
namespace Go.V
def Ce (es:List Ent):Prop:=es.Pairwise (fun a b=>blt a.key b.key=true)
def WQ (bl:List Al) (key:ByteArray) (i j:Nat) (ok:Bool):Prop :=
 (i=bl.length∧j=0∧ok=false∧∀e∈bl.flatMap Al.es,blt e.key key=true) ∨
 ∃A b B C e D,bl=A++b :: B∧b.es=C++e :: D∧i=A.length∧j=C.length∧ok=decide (e.key=key)∧(∀x∈A.flatMap Al.es++C,blt x.key key=true)∧blt e.key key=false
def NN (b:Al):ByteArray:=(b.es.getD (b.es.length - 1) ⟨⟨#[]⟩,none,0,[]⟩).key
theorem Kg {b:Al} {e:Ent} (h:b.es[b.es.length - 1]?=some e):NN b=e.key:=by
 unfold NN;rw [List.getD_eq_getElem?_getD,h];rfl
theorem DD {α:Type} {xs:List α} {i:Nat} {x:α} (h:xs[i]?=some x):xs=xs.take i++x :: xs.drop (i+1):=by
 obtain ⟨hk,e⟩:=List.getElem?_eq_some_iff.1 h
 rw [← e,← List.drop_eq_getElem_cons hk,List.take_append_drop]
theorem Sw {α:Type} {R:α→α→Prop} {a b:List α} (h:(a++b).Pairwise R):∀x∈a,∀y∈b,R x y:=(List.pairwise_append.1 h).2.2
theorem LM {es:List Ent} (hs:Ce es) {k:Nat} {e:Ent} {key:ByteArray} (he:es[k]?=some e) (hl:blt e.key key=true):∀x∈es.take (k+1),blt x.key key=true:=by
 intro x hx
 rw [AJ he] at hx
 rcases List.mem_append.1 hx with h|h
 ·have h0:=DD he
  unfold Ce at hs
  rw [h0] at hs
  exact Eo (Sw hs x h e (by simp)) hl
 ·simp at h;rw [h];exact hl
end Go.V
namespace Go.Proofs.YtkcolpfanmdmiaaGreatDoor
open Go.V
attribute [local irreducible] Blk Own hcell Ao Ab PlainT Ak Ad Ap Aa Ag EqT Au
theorem find1 {w:World} {ix a1 a2:Nat} {F:Nat→Prop} {pb:Option Addr} {cb:Nat} {bl:List Al} {key:ByteArray} {i:Nat} {b:Al} (hI:Bz w ix F pb cb bl) (hA1:Blk w.heap a1 84 [.pointer (some (adr (bx ix) 0))]) (hA2:Blk w.heap a2 9 [.string key]) (hb:bl[i]?=some b) (hlen:b.es.length≤1000000) :
  Ctr Tryz.prog 160 [.int .i64 (i:Int),.pointer (some (adr (bx a1) 0)),.pointer (some (adr (bx a2) 0))] w (fun v w'=>v=.bool (!blt (NN b) key)∧Ext w w'):=by
 have hbm:=List.mem_of_getElem? hb
 obtain ⟨ho,hne⟩:=hI.blok b hbm
 have hpos:=List.length_pos_iff.2 hne
 obtain ⟨e,he⟩:=Aj (xs:=b.es) (k:=b.es.length - 1) (by omega)
 rw [Kg he]
 have hbox:=hI.box
 have hrows:=hI.rows.sl
 have hs:=ho.sl
 have hil:=AR hb
 refine Ac Tryz.func160 Tryz.ntmps160 rfl rfl rfl ?_
 repeat' (first|refine R1 ?_|(refine Q1 ?_;first|(refine Q10 T.s217 hs.ok (q:=b.es.length - 1) (hj:=by omega) ?_)|(refine Q9 (q:=i) (e:=Ay) (hu:=T.p217) (hs:=hrows) (hq:=hb) ?_)|(refine Q44 (q:=b.es.length - 1) (e:=AB) (hu:=T.p9) (hs:=hs.ext (Ext.drew Ext.rfl')) (hq:=he) ?_)|(refine Q3 (hu:=by (first|exact T.p84|exact T.p214|exact T.p9)) ?_)|(refine Q2 (hu:=by (first|exact T.f216_0|exact T.f219_0)) ?_)|refine Q13 T.s214 ?_|(refine Q6 (hu:=T.s217) ?_))|refine R2 ?_|refine Zf 1 [] [0,1,2,3,4,5,6,7,8,9] mixed (by decide +kernel) ?_|fail)
 refine Kr Tryz.results160 ?_
 exact ⟨rfl,Kz⟩
theorem find2 {w:World} {a1 a2:Nat} {p:Option Addr} {c:Nat} {es:List Ent} {key:ByteArray} {j:Nat} {e:Ent} (hs:Sl w.heap AB p c es) (hA1:Blk w.heap a1 217 [.slice p es.length c]) (hA2:Blk w.heap a2 9 [.string key]) (he:es[j]?=some e) :
  Ctr Tryz.prog 161 [.int .i64 (j:Int),.pointer (some (adr (bx a1) 0)),.pointer (some (adr (bx a2) 0))] w (fun v w'=>v=.bool (!blt e.key key)∧Ext w w'):=by
 have hjl:=AR he
 have hb:=hs.bound
 refine Ac Tryz.func161 Tryz.ntmps161 rfl rfl rfl ?_
 repeat' (first|refine R1 ?_|(refine Q1 ?_;first|(refine Q13 T.s217 (q:=j) (ho:=hs.ok) ?_)|(refine Q44 (q:=j) (e:=AB) (hu:=T.p9) (hs:=hs.ext (Ext.drew Ext.rfl')) (hq:=he) ?_)|(refine Q3 (hu:=by (first|exact T.p217|exact T.p9)) ?_)|(refine Q2 (hu:=T.f219_0) ?_))|refine R2 ?_|refine Zf 1 [] [0,1,2,3,4,5,6,7] mixed (by decide +kernel) ?_|fail)
 refine Kr Tryz.results161 ?_
 exact ⟨rfl,Kz⟩
theorem Gr {w:World} {ix:Nat} {F:Nat→Prop} {pb:Option Addr} {cb:Nat} {bl:List Al} {key:ByteArray} (hI:Bz w ix F pb cb bl) (hS:Ce (bl.flatMap Al.es)) (hn:(bl.flatMap Al.es).length≤1000) :
  Ctr Tryz.prog 98 [.pointer (some (adr (bx ix) 0)),.string key] w (fun v w'=>∃i j:Nat,∃ok,v=.tuple #[.int .i64 (i:Int),.int .i64 (j:Int),.bool ok]∧WQ bl key i j ok∧Ext w w'):=by
 have hbl:bl.length≤(bl.flatMap Al.es).length:=by
  have hne:∀b∈bl,b.es≠[]:=fun b hb=>(hI.blok b hb).2
  clear hI hS hn
  induction bl with
  | nil=>simp
  | cons b bl ih =>
   have h1:=ih (fun b' hb'=>hne b' (by simp [hb']))
   have h2:=List.length_pos_iff.2 (hne b (by simp))
   simp only [List.flatMap_cons,List.length_append,List.length_cons] at *;omega
 have hbe:∀b∈bl,b.es.length≤1000:=fun b hb=>by
  have:b.es.length≤(bl.flatMap Al.es).length:=by
   rw [List.flatMap_def];exact List.Sublist.length_le (List.sublist_flatten_of_mem (List.mem_map_of_mem hb))
  omega
 refine Ac Tryz.func98 Tryz.ntmps98 rfl rfl rfl ?_
 repeat' (refine R1 ?_)
 refine Q1 ?_;refine Q8 ?_;intro a1 w1 ha1 hA1 hx1 hs1
 replace hA1:Blk w1.heap a1 84 [.pointer (some (adr (bx ix) 0))]:=hA1
 skip
 refine Q1 ?_;refine Q8 ?_;intro a2 w2 ha2 hA2 hx2 hs2
 replace hA2:Blk w2.heap a2 9 [.string key]:=hA2
 replace hA1:=hA1.ext hx2
 have hx02:=hx1.trans hx2
 have hI2:=hI.ext hx02
 have hbox:=hI2.box
 have hrows:=hI2.rows.sl
 have hrb:=hrows.bound
 repeat' (first|refine R1 ?_|(refine Q1 ?_;first|(refine Q3 (hu:=by (first|exact T.p84|exact T.p214)) ?_)|(refine Q2 (hu:=T.f216_0) ?_)|(refine Q6 (hu:=T.s214) ?_))|refine R2 ?_|fail)
 refine Q1 ?_;refine Q4 (hc:=Fs (pr:=fun i=>match bl[i.toNat]? with|some b=>!blt (NN b) key|none=>true) (by omega) (by omega) (fun i w3 h0 h1 hx3=>by
  obtain ⟨b,hb⟩:=Aj (xs:=bl) (k:=i.toNat) (by omega)
  rw [hb]
  have:=find1 (key:=key) (hI2.ext hx3) (hA1.ext hx3) (hA2.ext hx3) hb (by have:=hbe b (List.mem_of_getElem? hb);omega)
  rw [show ((i.toNat:Nat):Int)=i by omega] at this
  exact this)) ?_;rintro _ w3 ⟨i1,rfl,hi0,hi1,hi2,hi3,hx3⟩;refine Kc ?_
 obtain ⟨i,rfl⟩:∃i:Nat,i1=(i:Int):=⟨i1.toNat,by omega⟩
 have hbefore:∀x∈(bl.take i).flatMap Al.es,blt x.key key=true:=by
  intro x hx
  rcases hi3 with h|h
  ·rw [show i=0 by omega] at hx;simp at hx
  ·obtain ⟨i',rfl⟩:∃i',i=i'+1:=by
    cases i with
    | zero=>simp at hx
    | succ i'=>exact ⟨i',rfl⟩
   obtain ⟨b,hb⟩:=Aj (xs:=bl) (k:=i') (by omega)
   have e0:(((i'+1:Nat):Int) - 1).toNat=i':=by omega
   rw [e0,hb] at h
   simp only [Bool.not_eq_false'] at h
   have hne:=(hI.blok b (List.mem_of_getElem? hb)).2
   obtain ⟨e,he⟩:=Aj (xs:=b.es) (k:=b.es.length - 1) (by have:=List.length_pos_iff.2 hne;omega)
   rw [Kg he] at h
   have h0:=DD hb
   have h1:(bl.take (i'+1)).flatMap Al.es=(bl.take i').flatMap Al.es++b.es:=by rw [AJ hb];simp
   have hs1:Ce ((bl.take (i'+1)).flatMap Al.es):=by
    unfold Ce at hS ⊢
    rw [← List.take_append_drop (i'+1) bl,List.flatMap_append] at hS
    exact (List.pairwise_append.1 hS).1
   have hg:((bl.take (i'+1)).flatMap Al.es)[((bl.take (i'+1)).flatMap Al.es).length - 1]?=some e:=by
    rw [h1,List.length_append,List.getElem?_append_right (by have:=List.length_pos_iff.2 hne;omega),← he]
    congr 1;have:=List.length_pos_iff.2 hne;omega
   have:=LM hs1 hg h
   rw [List.take_of_length_le (by omega)] at this
   exact this x hx
 replace hA1:=hA1.ext hx3
 replace hA2:=hA2.ext hx3
 have hI3:=hI2.ext hx3
 have l2:=hA2.lt
 have hbox3:=hI3.box
 have hx03:=hx02.trans hx3
 by_cases hil:i=bl.length
 ·subst hil
  repeat' (first|refine R1 ?_|(refine Q1 ?_;first|(refine Q3 (hu:=by (first|exact T.p84|exact T.p214)) ?_)|(refine Q2 (hu:=T.f216_0) ?_)|(refine Q6 (hu:=T.s214) ?_))|refine R2 ?_|(apply Za;exact rfl;all_goals (intro h;try (exfalso;omega)))|fail)
  all_goals try (exfalso;omega)
  refine Kr Tryz.results98 ?_
  refine ⟨bl.length,0,false,rfl,.inl ⟨rfl,rfl,rfl,fun e he=>hbefore e (by rw [List.take_length];exact he)⟩,hx03⟩
 have hlt:i<bl.length:=by omega
 obtain ⟨b,hb⟩:=Aj hlt
 have hbm:=List.mem_of_getElem? hb
 have hrows3:=hI3.rows.sl
 have hbl2:=hbe b hbm
 obtain ⟨hob,hne⟩:=hI3.blok b hbm
 have hpos:=List.length_pos_iff.2 hne
 have hlast:blt (NN b) key=false:=by
  rcases hi2 with h|h
  ·omega
  ·rw [show ((i:Nat):Int).toNat=i by omega,hb] at h
   simpa using h
 repeat' (first|refine R1 ?_|(refine Q1 ?_;first|(refine Q9 (q:=i) (e:=Ay) (hu:=T.p217) (hs:=hrows3) (hq:=hb) ?_)|(refine Q3 (hu:=by (first|exact T.p84|exact T.p214)) ?_)|(refine Q2 (hu:=T.f216_0) ?_)|(refine Q6 (hu:=T.s214) ?_)|refine Q13 T.s214 ?_)|refine R2 ?_|(apply Za;exact rfl;all_goals (intro h;try (exfalso;omega)))|fail)
 all_goals try (exfalso;omega)
 refine Q1 ?_;refine Q7 T.zero217 ?_;intro a4 w4 ha4 hA4 hx4 hs4
 have hrows4:=hrows3.ext hx4
 replace hA1:=hA1.ext hx4
 replace hA2:=hA2.ext hx4
 have hbox4:=hbox3.ext hx4
 skip
 refine Q1 ?_;refine Q5 T.z217 hA4 ?_;intro w5 hA5 hg5 hs5
 replace hA5:Blk w5.heap a4 217 [.slice b.p b.es.length b.c]:=hA5
 have hx5:Ext w3 w5:=hx4.own hg5 (fun k hk=>by injection hk;omega)
 replace hA2:=hA2.grown hg5 (by intro e;injection e with e;omega)
 have hs5':=hob.sl.ext hx5
 have hx05:=hx03.trans hx5
 repeat' (first|(refine Q1 ?_;first|(refine Q3 (hu:=T.p217) ?_)|(refine Q6 (hu:=T.s217) ?_))|refine R1 ?_|refine R2 ?_|fail)
 refine Q1 ?_;refine Q4 (hc:=Fs (pr:=fun j=>match b.es[j.toNat]? with|some e=>!blt e.key key|none=>true) (by omega) (by omega) (fun j w6 h0 h1 hx6=>by
  obtain ⟨e,he⟩:=Aj (xs:=b.es) (k:=j.toNat) (by omega)
  rw [he]
  have:=find2 (key:=key) (hs5'.ext hx6) (hA5.ext hx6) (hA2.ext hx6) he
  rw [show ((j.toNat:Nat):Int)=j by omega] at this
  exact this)) ?_;rintro _ w6 ⟨j1,rfl,hj0,hj1,hj2,hj3,hx6⟩;refine Kc ?_
 obtain ⟨j,rfl⟩:∃j:Nat,j1=(j:Int):=⟨j1.toNat,by omega⟩
 have hsb:Ce b.es:=by
  unfold Ce at hS ⊢
  have h0:=DD hb
  rw [h0,List.flatMap_append,List.flatMap_cons] at hS
  exact (List.pairwise_append.1 (List.pairwise_append.1 hS).2.1).1
 have hjb:∀x∈b.es.take j,blt x.key key=true:=by
  intro x hx
  rcases hj3 with h|h
  ·rw [show j=0 by omega] at hx;simp at hx
  ·obtain ⟨j',rfl⟩:∃j',j=j'+1:=by
    cases j with
    | zero=>simp at hx
    | succ j'=>exact ⟨j',rfl⟩
   obtain ⟨e,he⟩:=Aj (xs:=b.es) (k:=j') (by omega)
   have e0:(((j'+1:Nat):Int) - 1).toNat=j':=by omega
   rw [e0,he] at h
   simp only [Bool.not_eq_false'] at h
   exact LM hsb he h x hx
 have hjl:j<b.es.length:=by
  rcases Nat.lt_or_ge j b.es.length with h|h
  ·exact h
  ·exfalso
   obtain ⟨e,he⟩:=Aj (xs:=b.es) (k:=b.es.length - 1) (by omega)
   have h1:=hjb e (by rw [List.take_of_length_le h];exact List.mem_of_getElem? he)
   rw [Kg he,h1] at hlast
   cases hlast
 obtain ⟨e,he⟩:=Aj hjl
 have hel:blt e.key key=false:=by
  rcases hj2 with h|h
  ·omega
  ·rw [show ((j:Nat):Int).toNat=j by omega,he] at h
   simpa using h
 have hs6:=hs5'.ext hx6
 replace hA5:=hA5.ext hx6
 replace hA2:=hA2.ext hx6
 repeat' (first|refine R1 ?_|(refine Q1 ?_;first|(refine Q13 T.s217 (q:=j) (ho:=hs6.ok) ?_)|(refine Q44 (q:=j) (e:=AB) (hu:=T.p9) (hs:=hs6.ext (Ext.drew Ext.rfl')) (hq:=he) ?_)|(refine Q3 (hu:=by (first|exact T.p217|exact T.p9)) ?_)|(refine Q2 (hu:=T.f219_0) ?_))|refine R2 ?_|refine Zf 1 [] [0,1,2,3,4,5,6,7,8,9,10,11] mixed (by decide +kernel) ?_|fail)
 refine Kr Tryz.results98 ?_
 refine ⟨i,j,decide (e.key=key),rfl,.inr ⟨bl.take i,b,bl.drop (i+1),b.es.take j,e,b.es.drop (j+1),DD hb,DD he,by rw [List.length_take];omega,by rw [List.length_take];omega,rfl,fun x hx=>?_,hel⟩,(hx05.trans hx6).trans Kz⟩
 rcases List.mem_append.1 hx with h|h
 ·exact hbefore x h
 ·exact hjb x h
theorem QP (cur vs1 vs2:List Value) (o:Nat) (h:o+vs1.length+vs2.length≤cur.length) :
  (cur.take o++vs1++cur.drop (o+vs1.length)).take (o+vs1.length)++vs2++(cur.take o++vs1++cur.drop (o+vs1.length)).drop (o+vs1.length+vs2.length)=cur.take o++vs1++(vs2++cur.drop (o+vs1.length+vs2.length)):=by
 have hl:(cur.take o++vs1).length=o+vs1.length:=by simp;omega
 rw [List.take_left' hl,List.drop_append,List.drop_of_length_le (by omega),hl,List.drop_drop,List.nil_append,List.append_assoc (cur.take o++vs1)]
 congr 3;omega
theorem LX (cur vs1 vs2:List Value) (o:Nat) (h:o+vs1.length+vs2.length≤cur.length) :
  (cur.take (o+vs1.length)++vs2++cur.drop (o+vs1.length+vs2.length)).take o++vs1++(cur.take (o+vs1.length)++vs2++cur.drop (o+vs1.length+vs2.length)).drop (o+vs1.length)=cur.take o++vs1++(vs2++cur.drop (o+vs1.length+vs2.length)):=by
 have hl:(cur.take (o+vs1.length)).length=o+vs1.length:=by simp;omega
 rw [List.append_assoc (cur.take (o+vs1.length)),List.drop_left' hl,List.take_append_of_le_length (by omega),List.take_take]
 congr 3;omega
theorem Dx {α:Type} {e:Enc α} {xs:List α} {x:α} {i:Nat} {tl hd:List Value} (hi:i≤xs.length) (ht:hd=(xs.take i).flatMap e.enc) :
  (hd++e.enc x++((xs.drop i).flatMap e.enc++tl)).take ((xs.take i++[x]++xs.drop i).length * e.sz)=(xs.take i++[x]++xs.drop i).flatMap e.enc:=by
 rw [ht,← List.append_assoc,List.take_left']
 ·simp
 ·simp only [List.length_append,Az,e.len,List.length_take,List.length_drop,List.length_cons,List.length_nil,Nat.add_mul]
  have:min i xs.length=i:=by omega
  rw [this];omega
theorem Dc {α:Type} (e:Enc α) (xs:List α) (i:Nat) (hi:i≤xs.length):(xs.flatMap e.enc).take (i * e.sz)=(xs.take i).flatMap e.enc:=by
 have h:xs.flatMap e.enc=(xs.take i).flatMap e.enc++(xs.drop i).flatMap e.enc:=by rw [← List.flatMap_append,List.take_append_drop]
 have hm:min i xs.length=i:=by omega
 rw [h,List.take_left' (by rw [Az,List.length_take,hm])]
theorem JZ:Extern.findNext Tryz.f229=none:=by kernel_rfl
theorem KU:Extern.find Tryz.f229=some (Extern.SlicesOverlaps.overlaps #[217,217] #[4]):=by kernel_rfl
theorem JY {p q:Option Addr} {c B i vb:Nat} {xs:List Ent} {x:Ent} {w:World} (ho:Go.V.Own w B 219 AB p c xs) (hB:B≤w.heap.size) (hi:i≤xs.length) (hq:q=bx vb) (hv:Sl w.heap AB q 1 [x]) (hV:Blk w.heap vb 219 (AB.enc x)) (hne:blk p≠some vb) (hlen:xs.length≤1000000) :
  Ctr Tryz.prog 164 [.slice p xs.length c,.int .i64 (i:Int),.slice q 1 1] w (fun v w'=>∃p' c',v=.slice p' (xs.take i++[x]++xs.drop i).length c'∧App w w' B 219 AB p p' c' (xs.take i++[x]++xs.drop i)):=by
 have hok:=ho.sl.ok
 have hcap:=hok.cap
 have hle:=hok.le
 simp only [maxLen] at hcap
 have hlen1:(xs.take i++[x]++xs.drop i).length=xs.length+1:=by simp;omega
 have hsz:AB.sz=2:=rfl
 have hfl:=fun ys:List Ent=>Az AB ys
 simp only [hsz] at hfl
 refine Ac Tryz.func164 Tryz.ntmps164 rfl rfl rfl ?_
 by_cases hin:i=xs.length
 ·repeat' (first|refine R1 ?_|(refine Q1 ?_;first|(refine Q27 T.s217 (q:=i) (ho:=hok) ?_)|(refine Q16 T.s217 ho hv (ys:=[x]) ?_;intro p5 c5 w5 ha5)|(refine Q6 (hu:=T.s217) ?_))|refine R2 ?_|(apply Za;exact rfl;all_goals (intro h;try (exfalso;omega)))|fail)
  refine Kr Tryz.results164 ?_
  have e1:xs.take i++[x]++xs.drop i=xs++[x]:=by rw [List.take_of_length_le (by omega),List.drop_of_length_le (by omega)];simp
  rw [e1]
  exact ⟨p5,c5,rfl,ha5⟩
 obtain ⟨gb,cur,rfl,hgb,hA,hcl,hcm,_,htk⟩:=ho.toBlk (ho.some_of_pos (by omega))
 have hgbl:=hA.lt
 simp only [hsz] at hcl htk
 by_cases hroom:xs.length+1≤c
 ·have hok1:Okp (bx gb) (xs.length+1) c:=⟨hroom,hok.cap,(fun h=>by cases h),fun a ha _=>by injection ha with ha;rw [← ha]⟩
  have htl:(xs.drop i).flatMap AB.enc=(cur.drop (i * 2)).take ((xs.length - i) * 2):=by
   have e1:cur.take (xs.length * 2)=(xs.take i).flatMap AB.enc++(xs.drop i).flatMap AB.enc:=by rw [htk,← List.flatMap_append,List.take_append_drop]
   have e2:(cur.take (xs.length * 2)).drop (i * 2)=(xs.drop i).flatMap AB.enc:=by rw [e1,List.drop_left' (by rw [hfl];simp;omega)]
   rw [← e2,List.drop_take];congr 1;omega
  repeat' (first|refine R1 ?_|(refine Q1 ?_;first|(refine Q27 T.s217 (q:=i) (ho:=by (first|exact hok|exact hok1)) ?_)|(refine Q18 T.s217 hok1 (q:=i+1) (hj:=by omega) ?_)|(refine Q23 T.s217 (q:=xs.length+1) ?_)|refine Q54 T.s217 ?_|(refine Q83 Tryz.func229 JZ KU T.s217 hq hV hA (hq:=Bc (by omega)) ?_)|(refine Q6 (hu:=T.s217) ?_))|refine R2 ?_|(apply Za;exact rfl;all_goals (intro h;try (exfalso;omega)))|refine Zf 1 [] [0,1,2,3,4,5,6,7,8] mixed (by decide +kernel) ?_|fail)
  have hxl:(AB.enc x).length=2:=rfl
  have hdl:((xs.drop i).flatMap AB.enc).length=(xs.length - i) * 2:=by rw [hfl,List.length_drop]
  refine Q1 ?_
  apply Zz (gb:=gb) (o:=(i+1) * 2) (T:=219) (cur:=cur) ((xs.drop i).flatMap AB.enc);exact T.s217;exact rfl;exact rfl
  ·exact Bc (by omega)
  ·exact hA
  ·exact fun _=>⟨gb,i * 2,Bc (by omega)⟩
  ·rw [hdl];congr 1;omega
  ·intro j v hj
   rw [Bc (by omega)]
   rw [htl,List.getElem?_take] at hj
   split at hj
   ·rw [List.getElem?_drop] at hj
    have:=(hA.ext (w':=w.drew) (Ext.drew Ext.rfl')).cell hj
    simpa [adr] using this
   ·cases hj
  ·rw [hdl,hcl];omega
  ·exact Cg _ _
  ·decide
  ·exact rfl
  ·exact rfl
  ·exact rfl
  intro w2 hA2 hg2 hz2
  have hV2:=(hV.ext (Ext.drew Ext.rfl')).grown hg2 (by intro e;injection e with e;exact hne (by rw [e];rfl))
  have hv2:Sl w2.heap AB q 1 [x]:=(hv.ext (Ext.drew Ext.rfl')).grown hg2 (fun a ha _ e=>by rw [hq] at ha;injection ha with ha;rw [← ha] at e;injection e with e;exact hne (by rw [e];rfl))
  repeat' (first|refine R1 ?_|(refine Q1 ?_;(refine Q27 T.s217 (q:=i) (ho:=by (first|exact hok|exact hok1)) ?_))|fail)
  refine Q1 ?_
  apply Zz (gb:=gb) (o:=i * 2) (T:=219) (AB.enc x);exact T.s217;exact rfl;exact rfl
  ·exact Bc (by omega)
  ·exact hA2
  ·exact fun _=>⟨vb,0,hq⟩
  ·rw [hxl];have:min 1 (xs.length+1 - i)=1:=by omega
   rw [this]
  ·intro j v hj
   have:=hv2.cell 0 x rfl j v hj
   simpa using this
  ·rw [hxl];simp only [List.length_append,List.length_take,List.length_drop,hdl,hcl];omega
  ·exact Enc.one _ _
  ·decide
  ·exact rfl
  ·exact rfl
  ·exact rfl
  intro w3 hA3 hg3 hz3
  repeat' (first|refine R1 ?_|refine R2 ?_|fail)
  refine Kr Tryz.results164 ?_
  have hfit:i * 2+(AB.enc x).length+((xs.drop i).flatMap AB.enc).length≤cur.length:=by rw [hxl,hdl,hcl];omega
  have e0:(i+1) * 2=i * 2+(AB.enc x).length:=by rw [hxl];omega
  rw [e0] at hA3
  rw [LX cur _ _ _ hfit] at hA3
  refine ⟨bx gb,c,by rw [hlen1];rfl,Own.ofBlk hgb hA3 ?_ hcm (by rw [hlen1];exact hroom) (Dx hi ?_),?_,by unfold BK;exact .inl rfl,by have e:w.drew.heap.size=w.heap.size:=rfl;omega⟩
  ·simp only [List.length_append,List.length_take,List.length_drop,hdl,hcl,hxl,hsz];omega
  ·rw [← Dc AB xs i hi,← htk,List.take_take,hsz];congr 1;omega
  ·exact CG (p:=bx gb) (p':=bx gb) (Ev (Ext.drew Ext.rfl') hg2) (by unfold BK;exact .inl rfl) hg3
 ·repeat' (first|refine R1 ?_|(refine Q1 ?_;first|(refine Q27 T.s217 (q:=i) (ho:=hok) ?_)|(refine Q23 T.s217 (q:=i) (hj:=rfl) ?_)|refine Q54 T.s217 ?_|(refine Q6 (hu:=T.s217) ?_))|refine R2 ?_|(apply Za;exact rfl;all_goals (intro h;try (exfalso;omega)))|fail)
  refine Q1 ?_
  have hti:(xs.take i).length=i:=by simp;omega
  apply Zau (e:=AB) (xs:=xs.take i) (kk:=xs.length+1 - i) (m:=xs.length+1);exact T.s217;exact Tryz.underlying3;exact rfl;exact rfl
  ·omega
  ·exact ho.sl.take i
  ·omega
  ·omega
  ·exact rfl
  ·omega
  ·omega
  ·rw [hti];omega
  ·rw [hti];omega
  ·exact rfl
  ·exact rfl
  intro c2 w2 cur2 hA2 hcl2 htk2 hc2 hcm2 hx2 hz2
  rw [hti] at htk2 hc2
  have hgn:gb≠w.heap.size:=by omega
  have hok2:Okp (bx w.heap.size) (xs.length+1) c2:=⟨by omega,hcm2,(fun h=>by cases h),fun a ha _=>by injection ha with ha;rw [← ha]⟩
  have hxl:(AB.enc x).length=2:=rfl
  have hdl:((xs.drop i).flatMap AB.enc).length=(xs.length - i) * 2:=by rw [hfl,List.length_drop]
  repeat' (first|refine R1 ?_|(refine Q1 ?_;(refine Q27 T.s217 (q:=i) (ho:=hok2) ?_))|fail)
  refine Q1 ?_
  have hv2:=hv.ext hx2
  apply Zz (gb:=w.heap.size) (o:=i * 2) (T:=219) (AB.enc x);exact T.s217;exact rfl;exact rfl
  ·exact Bc (by omega)
  ·exact hA2
  ·exact fun _=>⟨vb,0,hq⟩
  ·rw [hxl];have:min 1 (xs.length+1 - i)=1:=by omega
   rw [this]
  ·intro j v hj
   have:=hv2.cell 0 x rfl j v hj
   simpa using this
  ·rw [hxl,hcl2];omega
  ·exact Enc.one _ _
  ·decide
  ·exact rfl
  ·exact rfl
  ·exact rfl
  intro w3 hA3 hg3 hz3
  have ho3:=(ho.ext hx2).kept hg3 (fun a ha e=>by injection ha with ha;rw [← ha] at e;injection e with e;exact hgn e.symm)
  have hs3:Sl w3.drew.heap AB (AP (bx gb) c i 2) (c - i) (xs.drop i):=(ho3.ext (Ext.drew Ext.rfl')).sl.drop (by omega)
  repeat' (first|refine R1 ?_|(refine Q1 ?_;first|(refine Q27 T.s217 (q:=i) (ho:=hok) ?_)|(refine Q18 T.s217 hok2 (q:=i+1) (hj:=by omega) ?_))|refine R2 ?_|refine Zf 1 [] [0,1,2,3,4,5,6,7,8] mixed (by decide +kernel) ?_|fail)
  refine Q1 ?_
  apply Zz (gb:=w.heap.size) (o:=(i+1) * 2) (T:=219) ((xs.drop i).flatMap AB.enc);exact T.s217;exact rfl;exact rfl
  ·exact Bc (by omega)
  ·exact hA3.ext (Ext.drew Ext.rfl')
  ·exact fun _=>⟨gb,i * 2,Bc (by omega)⟩
  ·rw [hdl];congr 1;omega
  ·exact fun j v hj=>hs3.flat j v hj
  ·simp only [List.length_append,List.length_take,List.length_drop,hdl,hcl2,hxl];omega
  ·exact Cg _ _
  ·decide
  ·exact rfl
  ·exact rfl
  ·exact rfl
  intro w4 hA4 hg4 hz4
  repeat' (first|refine R1 ?_|refine R2 ?_|fail)
  refine Kr Tryz.results164 ?_
  have hfit:i * 2+(AB.enc x).length+((xs.drop i).flatMap AB.enc).length≤cur2.length:=by rw [hxl,hdl,hcl2];omega
  have e0:(i+1) * 2=i * 2+(AB.enc x).length:=by rw [hxl];omega
  rw [e0] at hA4
  rw [QP cur2 _ _ _ hfit] at hA4
  have hx3:Ext w w3:=hx2.own hg3 (fun k hk=>by injection hk with hk;omega)
  have hx4:Ext w w4:=hx3.drew.own hg4 (fun k hk=>by injection hk with hk;omega)
  refine ⟨bx w.heap.size,c2,by rw [hlen1];rfl,Own.ofBlk hB hA4 ?_ hcm2 (by rw [hlen1];omega) (Dx hi ?_),hx4.grown _,by unfold BK;exact .inr (fun k hk=>by simp [blk] at hk;omega),by have:=hx4.size;omega⟩
  ·simp only [List.length_append,List.length_take,List.length_drop,hdl,hcl2,hxl,hsz];omega
  ·exact htk2
theorem Kb:Extern.findNext Tryz.f231=none:=by kernel_rfl
theorem KW:Extern.find Tryz.f231=some (Extern.SlicesOverlaps.overlaps #[214,214] #[4]):=by kernel_rfl
theorem Ka {p q:Option Addr} {c B i vb:Nat} {xs:List Al} {x:Al} {w:World} (ho:Go.V.Own w B 217 Ay p c xs) (hB:B≤w.heap.size) (hi:i≤xs.length) (hq:q=bx vb) (hv:Sl w.heap Ay q 1 [x]) (hV:Blk w.heap vb 217 (Ay.enc x)) (hne:blk p≠some vb) (hlen:xs.length≤1000000) :
  Ctr Tryz.prog 165 [.slice p xs.length c,.int .i64 (i:Int),.slice q 1 1] w (fun v w'=>∃p' c',v=.slice p' (xs.take i++[x]++xs.drop i).length c'∧App w w' B 217 Ay p p' c' (xs.take i++[x]++xs.drop i)):=by
 have hok:=ho.sl.ok
 have hcap:=hok.cap
 have hle:=hok.le
 simp only [maxLen] at hcap
 have hlen1:(xs.take i++[x]++xs.drop i).length=xs.length+1:=by simp;omega
 have hsz:Ay.sz=1:=rfl
 have hfl:=fun ys:List Al=>Az Ay ys
 simp only [hsz] at hfl
 refine Ac Tryz.func165 Tryz.ntmps165 rfl rfl rfl ?_
 by_cases hin:i=xs.length
 ·repeat' (first|refine R1 ?_|(refine Q1 ?_;first|(refine Q27 T.s214 (q:=i) (ho:=hok) ?_)|(refine Q16 T.s214 ho hv (ys:=[x]) ?_;intro p5 c5 w5 ha5)|(refine Q6 (hu:=T.s214) ?_))|refine R2 ?_|(apply Za;exact rfl;all_goals (intro h;try (exfalso;omega)))|fail)
  refine Kr Tryz.results165 ?_
  have e1:xs.take i++[x]++xs.drop i=xs++[x]:=by rw [List.take_of_length_le (by omega),List.drop_of_length_le (by omega)];simp
  rw [e1]
  exact ⟨p5,c5,rfl,ha5⟩
 obtain ⟨gb,cur,rfl,hgb,hA,hcl,hcm,_,htk⟩:=ho.toBlk (ho.some_of_pos (by omega))
 have hgbl:=hA.lt
 simp only [hsz] at hcl htk
 by_cases hroom:xs.length+1≤c
 ·have hok1:Okp (bx gb) (xs.length+1) c:=⟨hroom,hok.cap,(fun h=>by cases h),fun a ha _=>by injection ha with ha;rw [← ha]⟩
  have htl:(xs.drop i).flatMap Ay.enc=(cur.drop (i * 1)).take ((xs.length - i) * 1):=by
   have e1:cur.take (xs.length * 1)=(xs.take i).flatMap Ay.enc++(xs.drop i).flatMap Ay.enc:=by rw [htk,← List.flatMap_append,List.take_append_drop]
   have e2:(cur.take (xs.length * 1)).drop (i * 1)=(xs.drop i).flatMap Ay.enc:=by rw [e1,List.drop_left' (by rw [hfl];simp;omega)]
   rw [← e2,List.drop_take];congr 1;omega
  repeat' (first|refine R1 ?_|(refine Q1 ?_;first|(refine Q27 T.s214 (q:=i) (ho:=by (first|exact hok|exact hok1)) ?_)|(refine Q18 T.s214 hok1 (q:=i+1) (hj:=by omega) ?_)|(refine Q23 T.s214 (q:=xs.length+1) ?_)|refine Q54 T.s214 ?_|(refine Q83 Tryz.func231 Kb KW T.s214 hq hV hA (hq:=Bc (by omega)) ?_)|(refine Q6 (hu:=T.s214) ?_))|refine R2 ?_|(apply Za;exact rfl;all_goals (intro h;try (exfalso;omega)))|refine Zf 1 [] [0,1,2,3,4,5,6,7,8] mixed (by decide +kernel) ?_|fail)
  have hxl:(Ay.enc x).length=1:=rfl
  have hdl:((xs.drop i).flatMap Ay.enc).length=(xs.length - i) * 1:=by rw [hfl,List.length_drop]
  refine Q1 ?_
  apply Zz (gb:=gb) (o:=(i+1) * 1) (T:=217) (cur:=cur) ((xs.drop i).flatMap Ay.enc);exact T.s214;exact rfl;exact rfl
  ·exact Bc (by omega)
  ·exact hA
  ·exact fun _=>⟨gb,i * 1,Bc (by omega)⟩
  ·rw [hdl];congr 1;omega
  ·intro j v hj
   rw [Bc (by omega)]
   rw [htl,List.getElem?_take] at hj
   split at hj
   ·rw [List.getElem?_drop] at hj
    have:=(hA.ext (w':=w.drew) (Ext.drew Ext.rfl')).cell hj
    simpa [adr] using this
   ·cases hj
  ·rw [hdl,hcl];omega
  ·exact Cg _ _
  ·decide
  ·exact rfl
  ·exact rfl
  ·exact rfl
  intro w2 hA2 hg2 hz2
  have hV2:=(hV.ext (Ext.drew Ext.rfl')).grown hg2 (by intro e;injection e with e;exact hne (by rw [e];rfl))
  have hv2:Sl w2.heap Ay q 1 [x]:=(hv.ext (Ext.drew Ext.rfl')).grown hg2 (fun a ha _ e=>by rw [hq] at ha;injection ha with ha;rw [← ha] at e;injection e with e;exact hne (by rw [e];rfl))
  repeat' (first|refine R1 ?_|(refine Q1 ?_;(refine Q27 T.s214 (q:=i) (ho:=by (first|exact hok|exact hok1)) ?_))|fail)
  refine Q1 ?_
  apply Zz (gb:=gb) (o:=i * 1) (T:=217) (Ay.enc x);exact T.s214;exact rfl;exact rfl
  ·exact Bc (by omega)
  ·exact hA2
  ·exact fun _=>⟨vb,0,hq⟩
  ·rw [hxl];have:min 1 (xs.length+1 - i)=1:=by omega
   rw [this]
  ·intro j v hj
   have:=hv2.cell 0 x rfl j v hj
   simpa using this
  ·rw [hxl];simp only [List.length_append,List.length_take,List.length_drop,hdl,hcl];omega
  ·exact Enc.one _ _
  ·decide
  ·exact rfl
  ·exact rfl
  ·exact rfl
  intro w3 hA3 hg3 hz3
  repeat' (first|refine R1 ?_|refine R2 ?_|fail)
  refine Kr Tryz.results165 ?_
  have hfit:i * 1+(Ay.enc x).length+((xs.drop i).flatMap Ay.enc).length≤cur.length:=by rw [hxl,hdl,hcl];omega
  have e0:(i+1) * 1=i * 1+(Ay.enc x).length:=by rw [hxl];omega
  rw [e0] at hA3
  rw [LX cur _ _ _ hfit] at hA3
  refine ⟨bx gb,c,by rw [hlen1];rfl,Own.ofBlk hgb hA3 ?_ hcm (by rw [hlen1];exact hroom) (Dx hi ?_),?_,by unfold BK;exact .inl rfl,by have e:w.drew.heap.size=w.heap.size:=rfl;omega⟩
  ·simp only [List.length_append,List.length_take,List.length_drop,hdl,hcl,hxl,hsz];omega
  ·rw [← Dc Ay xs i hi,← htk,List.take_take,hsz];congr 1;omega
  ·exact CG (p:=bx gb) (p':=bx gb) (Ev (Ext.drew Ext.rfl') hg2) (by unfold BK;exact .inl rfl) hg3
 ·repeat' (first|refine R1 ?_|(refine Q1 ?_;first|(refine Q27 T.s214 (q:=i) (ho:=hok) ?_)|(refine Q23 T.s214 (q:=i) (hj:=rfl) ?_)|refine Q54 T.s214 ?_|(refine Q6 (hu:=T.s214) ?_))|refine R2 ?_|(apply Za;exact rfl;all_goals (intro h;try (exfalso;omega)))|fail)
  refine Q1 ?_
  have hti:(xs.take i).length=i:=by simp;omega
  apply Zau (e:=Ay) (xs:=xs.take i) (kk:=xs.length+1 - i) (m:=xs.length+1);exact T.s214;exact Tryz.underlying3;exact rfl;exact rfl
  ·omega
  ·exact ho.sl.take i
  ·omega
  ·omega
  ·exact rfl
  ·omega
  ·omega
  ·rw [hti];omega
  ·rw [hti];omega
  ·exact rfl
  ·exact rfl
  intro c2 w2 cur2 hA2 hcl2 htk2 hc2 hcm2 hx2 hz2
  rw [hti] at htk2 hc2
  have hgn:gb≠w.heap.size:=by omega
  have hok2:Okp (bx w.heap.size) (xs.length+1) c2:=⟨by omega,hcm2,(fun h=>by cases h),fun a ha _=>by injection ha with ha;rw [← ha]⟩
  have hxl:(Ay.enc x).length=1:=rfl
  have hdl:((xs.drop i).flatMap Ay.enc).length=(xs.length - i) * 1:=by rw [hfl,List.length_drop]
  repeat' (first|refine R1 ?_|(refine Q1 ?_;(refine Q27 T.s214 (q:=i) (ho:=hok2) ?_))|fail)
  refine Q1 ?_
  have hv2:=hv.ext hx2
  apply Zz (gb:=w.heap.size) (o:=i * 1) (T:=217) (Ay.enc x);exact T.s214;exact rfl;exact rfl
  ·exact Bc (by omega)
  ·exact hA2
  ·exact fun _=>⟨vb,0,hq⟩
  ·rw [hxl];have:min 1 (xs.length+1 - i)=1:=by omega
   rw [this]
  ·intro j v hj
   have:=hv2.cell 0 x rfl j v hj
   simpa using this
  ·rw [hxl,hcl2];omega
  ·exact Enc.one _ _
  ·decide
  ·exact rfl
  ·exact rfl
  ·exact rfl
  intro w3 hA3 hg3 hz3
  have ho3:=(ho.ext hx2).kept hg3 (fun a ha e=>by injection ha with ha;rw [← ha] at e;injection e with e;exact hgn e.symm)
  have hs3:Sl w3.drew.heap Ay (AP (bx gb) c i 1) (c - i) (xs.drop i):=(ho3.ext (Ext.drew Ext.rfl')).sl.drop (by omega)
  repeat' (first|refine R1 ?_|(refine Q1 ?_;first|(refine Q27 T.s214 (q:=i) (ho:=hok) ?_)|(refine Q18 T.s214 hok2 (q:=i+1) (hj:=by omega) ?_))|refine R2 ?_|refine Zf 1 [] [0,1,2,3,4,5,6,7,8] mixed (by decide +kernel) ?_|fail)
  refine Q1 ?_
  apply Zz (gb:=w.heap.size) (o:=(i+1) * 1) (T:=217) ((xs.drop i).flatMap Ay.enc);exact T.s214;exact rfl;exact rfl
  ·exact Bc (by omega)
  ·exact hA3.ext (Ext.drew Ext.rfl')
  ·exact fun _=>⟨gb,i * 1,Bc (by omega)⟩
  ·rw [hdl];congr 1;omega
  ·exact fun j v hj=>hs3.flat j v hj
  ·simp only [List.length_append,List.length_take,List.length_drop,hdl,hcl2,hxl];omega
  ·exact Cg _ _
  ·decide
  ·exact rfl
  ·exact rfl
  ·exact rfl
  intro w4 hA4 hg4 hz4
  repeat' (first|refine R1 ?_|refine R2 ?_|fail)
  refine Kr Tryz.results165 ?_
  have hfit:i * 1+(Ay.enc x).length+((xs.drop i).flatMap Ay.enc).length≤cur2.length:=by rw [hxl,hdl,hcl2];omega
  have e0:(i+1) * 1=i * 1+(Ay.enc x).length:=by rw [hxl];omega
  rw [e0] at hA4
  rw [QP cur2 _ _ _ hfit] at hA4
  have hx3:Ext w w3:=hx2.own hg3 (fun k hk=>by injection hk with hk;omega)
  have hx4:Ext w w4:=hx3.drew.own hg4 (fun k hk=>by injection hk with hk;omega)
  refine ⟨bx w.heap.size,c2,by rw [hlen1];rfl,Own.ofBlk hB hA4 ?_ hcm2 (by rw [hlen1];omega) (Dx hi ?_),hx4.grown _,by unfold BK;exact .inr (fun k hk=>by simp [blk] at hk;omega),by have:=hx4.size;omega⟩
  ·simp only [List.length_append,List.length_take,List.length_drop,hdl,hcl2,hxl,hsz];omega
  ·exact htk2
theorem Pe {p:Option Addr} {c B i:Nat} {xs:List Ent} {w:World} (ho:Go.V.Own w B 219 AB p c xs) (hi:i<xs.length) (hlen:xs.length≤1000000) :
  Ctr Tryz.prog 167 [.slice p xs.length c,.int .i64 (i:Int),.int .i64 ((i:Int)+1)] w (fun v w'=>v=.slice p (xs.take i++xs.drop (i+1)).length c∧Go.V.Own w' B 219 AB p c (xs.take i++xs.drop (i+1))∧w.grownBy w' (blk p)):=by
 have hok:=ho.sl.ok
 have hcap:=hok.cap
 have hle:=hok.le
 simp only [maxLen] at hcap
 have hsz:AB.sz=2:=rfl
 have hfl:=fun ys:List Ent=>Az AB ys
 simp only [hsz] at hfl
 obtain ⟨gb,cur,rfl,hgb,hA,hcl,hcm,_,htk⟩:=ho.toBlk (ho.some_of_pos (by omega))
 simp only [hsz] at hcl htk
 have hlen1:(xs.take i++xs.drop (i+1)).length=xs.length - 1:=by simp;omega
 have hdl:((xs.drop (i+1)).flatMap AB.enc).length=(xs.length - (i+1)) * 2:=by rw [hfl,List.length_drop]
 have htl:(xs.drop (i+1)).flatMap AB.enc=(cur.drop ((i+1) * 2)).take ((xs.length - (i+1)) * 2):=by
  have e1:cur.take (xs.length * 2)=(xs.take (i+1)).flatMap AB.enc++(xs.drop (i+1)).flatMap AB.enc:=by rw [htk,← List.flatMap_append,List.take_append_drop]
  have e2:(cur.take (xs.length * 2)).drop ((i+1) * 2)=(xs.drop (i+1)).flatMap AB.enc:=by rw [e1,List.drop_left' (by rw [hfl];simp;omega)]
  rw [← e2,List.drop_take];congr 1;omega
 refine Ac Tryz.func167 Tryz.ntmps167 rfl rfl rfl ?_
 repeat' (first|refine R1 ?_|(refine Q1 ?_;first|(refine Q64 T.s217 (q:=i) (r:=i+1) (mm:=xs.length) ?_)|(refine Q23 T.s217 (q:=i) (hj:=rfl) ?_)|(refine Q18 T.s217 hok (q:=i+1) (hj:=by omega) ?_)|(refine Q6 (hu:=T.s217) ?_))|refine R2 ?_|(apply Za;exact rfl;all_goals (intro h;try (exfalso;omega)))|refine Zf 1 [] [0,1,2,3,4,5,6,7] mixed (by decide +kernel) ?_|fail)
 all_goals try (exfalso;omega)
 refine Q1 ?_
 obtain ⟨oq,hoq⟩:∃oq,AP (bx gb) c (i+1) 2=some ⟨gb,oq,none⟩:=by
  unfold AP
  split
  ·exact ⟨0,rfl⟩
  ·exact ⟨(i+1) * 2,by simp [addr_add]⟩
 have hsd:Sl w.drew.heap AB (AP (bx gb) c (i+1) 2) (c - (i+1)) (xs.drop (i+1)):=(ho.ext (Ext.drew Ext.rfl')).sl.drop (by omega)
 apply ZS (gb:=gb) (vs:=(xs.drop (i+1)).flatMap AB.enc);exact T.s217;exact rfl;exact rfl;exact rfl;exact hoq;exact hA.ext (Ext.drew Ext.rfl');exact hcl
 ·exact hdl
 ·exact fun j v hj=>hsd.flat j v hj
 ·exact Cg _ _
 ·omega
 ·exact rfl
 ·exact rfl
 ·exact rfl
 intro w2 hA2 hg2 hz2
 replace hg2:w.grownBy w2 (some gb):=Ev (Ext.drew Ext.rfl') hg2
 have hlx:i+(xs.length - (i+1))=xs.length - 1:=by omega
 rw [hlx]
 have hc2:(cur.take (i * 2)++(xs.drop (i+1)).flatMap AB.enc++cur.drop (i * 2+((xs.drop (i+1)).flatMap AB.enc).length)).length=c * 2:=by
  simp only [List.length_append,List.length_take,List.length_drop,hdl,hcl];omega
 have htk2:(cur.take (i * 2)++(xs.drop (i+1)).flatMap AB.enc++cur.drop (i * 2+((xs.drop (i+1)).flatMap AB.enc).length)).take ((xs.length - 1) * 2)=(xs.take i++xs.drop (i+1)).flatMap AB.enc:=by
  rw [List.take_left' (by simp only [List.length_append,List.length_take,hdl,hcl];omega),List.flatMap_append,← Dc AB xs i (by omega),← htk,List.take_take,hsz]
  congr 2;omega
 generalize cur.take (i * 2)++(xs.drop (i+1)).flatMap AB.enc++cur.drop (i * 2+((xs.drop (i+1)).flatMap AB.enc).length)=cur2 at hA2 hc2 htk2
 repeat' (first|refine R1 ?_|(refine Q1 ?_;first|(refine Q29 T.s217 (q:=xs.length - 1) (r:=xs.length) ?_)|(refine Q6 (hu:=T.s217) ?_))|fail)
 all_goals try (exfalso;omega)
 refine Q1 ?_
 apply ZT (gb:=gb) (o:=(xs.length - 1) * 2) (cur:=cur2) (T:=219);exact T.s217;exact rfl
 ·exact fun _=>Bc (by omega)
 ·exact hA2
 ·rw [hc2];omega
 ·exact T.zero219
 ·decide
 ·exact rfl
 ·decide
 ·exact rfl
 ·exact rfl
 ·exact rfl
 intro w3 vs hvs hA3 hg3 hz3
 repeat' (first|refine R1 ?_|refine R2 ?_|fail)
 refine Kr Tryz.results167 ?_
 refine ⟨by rw [hlen1];rfl,Own.ofBlk hgb hA3 ?_ hcm (by rw [hlen1];omega) ?_,?_⟩
 ·simp only [List.length_append,List.length_take,List.length_drop,hvs,hc2,hsz];omega
 ·rw [hlen1,hsz,List.append_assoc,List.take_append_of_le_length (by simp only [List.length_take,hc2];omega),List.take_take,Nat.min_self]
  exact htk2
 ·exact CG (p:=bx gb) (p':=bx gb) hg2 (by unfold BK;exact .inl rfl) hg3
theorem Pf {p:Option Addr} {c B i:Nat} {xs:List Al} {w:World} (ho:Go.V.Own w B 217 Ay p c xs) (hi:i<xs.length) (hlen:xs.length≤1000000) :
  Ctr Tryz.prog 168 [.slice p xs.length c,.int .i64 (i:Int),.int .i64 ((i:Int)+1)] w (fun v w'=>v=.slice p (xs.take i++xs.drop (i+1)).length c∧Go.V.Own w' B 217 Ay p c (xs.take i++xs.drop (i+1))∧w.grownBy w' (blk p)):=by
 have hok:=ho.sl.ok
 have hcap:=hok.cap
 have hle:=hok.le
 simp only [maxLen] at hcap
 have hsz:Ay.sz=1:=rfl
 have hfl:=fun ys:List Al=>Az Ay ys
 simp only [hsz] at hfl
 obtain ⟨gb,cur,rfl,hgb,hA,hcl,hcm,_,htk⟩:=ho.toBlk (ho.some_of_pos (by omega))
 simp only [hsz] at hcl htk
 have hlen1:(xs.take i++xs.drop (i+1)).length=xs.length - 1:=by simp;omega
 have hdl:((xs.drop (i+1)).flatMap Ay.enc).length=(xs.length - (i+1)) * 1:=by rw [hfl,List.length_drop]
 have htl:(xs.drop (i+1)).flatMap Ay.enc=(cur.drop ((i+1) * 1)).take ((xs.length - (i+1)) * 1):=by
  have e1:cur.take (xs.length * 1)=(xs.take (i+1)).flatMap Ay.enc++(xs.drop (i+1)).flatMap Ay.enc:=by rw [htk,← List.flatMap_append,List.take_append_drop]
  have e2:(cur.take (xs.length * 1)).drop ((i+1) * 1)=(xs.drop (i+1)).flatMap Ay.enc:=by rw [e1,List.drop_left' (by rw [hfl];simp;omega)]
  rw [← e2,List.drop_take];congr 1;omega
 refine Ac Tryz.func168 Tryz.ntmps168 rfl rfl rfl ?_
 repeat' (first|refine R1 ?_|(refine Q1 ?_;first|(refine Q64 T.s214 (q:=i) (r:=i+1) (mm:=xs.length) ?_)|(refine Q23 T.s214 (q:=i) (hj:=rfl) ?_)|(refine Q18 T.s214 hok (q:=i+1) (hj:=by omega) ?_)|(refine Q6 (hu:=T.s214) ?_))|refine R2 ?_|(apply Za;exact rfl;all_goals (intro h;try (exfalso;omega)))|refine Zf 1 [] [0,1,2,3,4,5,6,7] mixed (by decide +kernel) ?_|fail)
 all_goals try (exfalso;omega)
 refine Q1 ?_
 obtain ⟨oq,hoq⟩:∃oq,AP (bx gb) c (i+1) 1=some ⟨gb,oq,none⟩:=by
  unfold AP
  split
  ·exact ⟨0,rfl⟩
  ·exact ⟨(i+1) * 1,by simp [addr_add]⟩
 have hsd:Sl w.drew.heap Ay (AP (bx gb) c (i+1) 1) (c - (i+1)) (xs.drop (i+1)):=(ho.ext (Ext.drew Ext.rfl')).sl.drop (by omega)
 apply ZS (gb:=gb) (vs:=(xs.drop (i+1)).flatMap Ay.enc);exact T.s214;exact rfl;exact rfl;exact rfl;exact hoq;exact hA.ext (Ext.drew Ext.rfl');exact hcl
 ·exact hdl
 ·exact fun j v hj=>hsd.flat j v hj
 ·exact Cg _ _
 ·omega
 ·exact rfl
 ·exact rfl
 ·exact rfl
 intro w2 hA2 hg2 hz2
 replace hg2:w.grownBy w2 (some gb):=Ev (Ext.drew Ext.rfl') hg2
 have hlx:i+(xs.length - (i+1))=xs.length - 1:=by omega
 rw [hlx]
 have hc2:(cur.take (i * 1)++(xs.drop (i+1)).flatMap Ay.enc++cur.drop (i * 1+((xs.drop (i+1)).flatMap Ay.enc).length)).length=c * 1:=by
  simp only [List.length_append,List.length_take,List.length_drop,hdl,hcl];omega
 have htk2:(cur.take (i * 1)++(xs.drop (i+1)).flatMap Ay.enc++cur.drop (i * 1+((xs.drop (i+1)).flatMap Ay.enc).length)).take ((xs.length - 1) * 1)=(xs.take i++xs.drop (i+1)).flatMap Ay.enc:=by
  rw [List.take_left' (by simp only [List.length_append,List.length_take,hdl,hcl];omega),List.flatMap_append,← Dc Ay xs i (by omega),← htk,List.take_take,hsz]
  congr 2;omega
 generalize cur.take (i * 1)++(xs.drop (i+1)).flatMap Ay.enc++cur.drop (i * 1+((xs.drop (i+1)).flatMap Ay.enc).length)=cur2 at hA2 hc2 htk2
 repeat' (first|refine R1 ?_|(refine Q1 ?_;first|(refine Q29 T.s214 (q:=xs.length - 1) (r:=xs.length) ?_)|(refine Q6 (hu:=T.s214) ?_))|fail)
 all_goals try (exfalso;omega)
 refine Q1 ?_
 apply ZT (gb:=gb) (o:=(xs.length - 1) * 1) (cur:=cur2) (T:=217);exact T.s214;exact rfl
 ·exact fun _=>Bc (by omega)
 ·exact hA2
 ·rw [hc2];omega
 ·exact T.zero217
 ·decide
 ·exact rfl
 ·decide
 ·exact rfl
 ·exact rfl
 ·exact rfl
 intro w3 vs hvs hA3 hg3 hz3
 repeat' (first|refine R1 ?_|refine R2 ?_|fail)
 refine Kr Tryz.results168 ?_
 refine ⟨by rw [hlen1];rfl,Own.ofBlk hgb hA3 ?_ hcm (by rw [hlen1];omega) ?_,?_⟩
 ·simp only [List.length_append,List.length_take,List.length_drop,hvs,hc2,hsz];omega
 ·rw [hlen1,hsz,List.append_assoc,List.take_append_of_le_length (by simp only [List.length_take,hc2];omega),List.take_take,Nat.min_self]
  exact htk2
 ·exact CG (p:=bx gb) (p':=bx gb) hg2 (by unfold BK;exact .inl rfl) hg3
theorem JI {p:Option Addr} {c n:Nat} {xs:List Ent} {w:World} (hx:Sl w.heap AB p c xs) (hb:xs.length≤1000000) (e:xs.length=n) :
  Ctr Tryz.prog 166 [.slice p n c] w (fun v w'=>∃p' c',v=.slice p' n c'∧Go.V.Own w' w.heap.size 219 AB p' c' xs∧Ext w w'):=by
 subst e
 refine Ac Tryz.func166 Tryz.ntmps166 rfl rfl rfl ?_
 repeat' (first|refine R1 ?_|(refine Q1 ?_;refine Q48 T.s217 ?_)|refine R2 ?_|(apply Zy;exact rfl;all_goals intro h)|fail)
 ·refine Kr Tryz.results166 ?_
  have hn:p=none:=by simpa using h
  have h1:=hx.ok.nul hn
  have h2:=hx.ok.le
  obtain rfl:xs=[]:=List.eq_nil_of_length_eq_zero (by omega)
  exact ⟨none,0,rfl,Own.nil _ _ _ _,Kz⟩
 ·refine Q1 ?_
  refine Q46 AB T.s217 ?_
  intro p1 w1 ho hx1 hs1
  have hsl:=hx.ext hx1
  repeat' (first|refine R1 ?_|(refine Q1 ?_;(refine Q45 T.s217 ho hsl ?_;intro p2 c2 w2 ho2 hg2 hn2))|refine R2 ?_|fail)
  refine Kr Tryz.results166 ?_
  exact ⟨p2,c2,rfl,ho2,Ext.own hx1 hg2 (fun k hk=>(ho.ge k hk).1)⟩
end Go.Proofs.YtkcolpfanmdmiaaGreatDoor
namespace Go.V
open Go.RowKit
variable {m : Operand} {i2 : Int} {len : Nat}
theorem Q75 {b:Nat} {t2:Nat} {cs:List Value} (hu:Ak P t sz) (hb:Blk w.heap b t2 cs) (hS:AA dr.2 b=false) (h:G P n ops dr l (E.put d (.agg cs.toArray)) w K) (hx:E.look x=some (.pointer (some (adr (bx b) 0))):=by exact rfl) (hl:cs.length=sz:=by exact rfl) (hd:Ah n d=true:=by exact rfl):G1 P n ops dr ⟨d,.load t x,ty,pos,af,g⟩ l E w K :=
 Zd _ hd (fun a ha w' hw=>by
  have hw':Bd dr.2 w w':=by
   rcases hw with hw|hw
   ·simp [Bi] at hw
   ·exact hw
  have hb':Blk w'.heap b t2 cs:=by
   have:=hw'.block b hb.lt hS
   unfold Blk at *
   rw [this];exact hb
  simp [execOp,Instr.loadAt,ha.eval hx,Instr.sureAddr,Ae hu hb' hl]) h
variable {t : TypeId} {v : Value} {m : Nat}
theorem Q76 (hu:PlainT P t) (hc:hcell w.heap (adr p m)=some v) (hS:AA dr.2 (adr p m).block=false) (h:G P n ops dr l (E.put d v) w K) (hx:E.look x=some (.pointer (some (adr p m))):=by exact rfl) (hd:Ah n d=true:=by exact rfl):G1 P n ops dr ⟨d,.load t x,ty,pos,af,g⟩ l E w K :=
 Zd _ hd (fun a ha w' hw=>by
  have hw':Bd dr.2 w w':=by
   rcases hw with hw|hw
   ·simp [Bi] at hw
   ·exact hw
  have hc':hcell w'.heap (adr p m)=some v:=by rw [BI (hw'.block _ (Dm hc) hS)];exact hc
  simp [execOp,Instr.loadAt,ha.eval hx,Instr.sureAddr,loadVar,hu w',load,Sem.run,Gj,hc']) h
end Go.V
namespace Go.Proofs.YtkcolpfanmdmiaaGreatDoor
open Go.V
attribute [local irreducible] Blk Own hcell Ao Ab PlainT Ak Ad Ap Aa Ag EqT Au
variable {G : Nat → Prop} {pb pb' : Option Addr} {cb cb' : Nat} {A M N B bl : List Al}
def Dj (ix:Nat) (pb:Option Addr) (M:List Al) (k:Nat):Prop:=k=ix∨blk pb=some k∨∃b∈M,blk b.p=some k
theorem Bz.ixb (h:Bz w ix F pb cb bl) {k:Nat} (hM:∀b∈M,b∈bl) (hk:Dj ix pb M k):IxB w k:=by
 rcases hk with rfl|hk|⟨b,hb,hk⟩
 ·exact Blk.ixB h.box (.inl rfl)
 ·exact Own.ixB h.rows (.inr (.inl rfl)) hk
 ·exact Own.ixB (h.blok b (hM b hb)).1 (.inr (.inr rfl)) hk
theorem Bz.keep (h:Bz w ix F pb cb bl) (hM:∀b∈M,b∈bl) (hc:Chg (Dj ix pb M) w w'):∀b∈bl,∀e∈b.es,∃rs,AX w' F e.p e.c rs e.vs:=fun b hb e he=>by
 obtain ⟨rs,hr⟩:=h.ent b hb e he
 exact ⟨rs,hr.chg hc fun k hk hG=>(h.typ k hk).not (h.ixb hM hG)⟩
theorem Bz.keepF (h:Bz w ix F pb cb bl) (hM:∀b∈M,b∈bl) (hc:Chg (Dj ix pb M) w w') {e:Ent} {rs:List Aw} (hr:AX w F e.p e.c rs e.vs):AX w' F e.p e.c rs e.vs :=
 hr.chg hc fun k hk hG=>(h.typ k hk).not (h.ixb hM hG)
theorem Bz.bks (h:Bz w ix F pb cb bl) {b:Al} (hb:b∈bl):∃k,blk b.p=some k∧k<w.heap.size:=by
 obtain ⟨k,hk⟩:=h.bk hb
 have hk':blk b.p=some k:=by rw [hk];rfl
 exact ⟨k,hk',(Go.V.Own.ge (h.blok b hb).1 k hk').2⟩
theorem Bz.patch (h:Bz w ix F pb cb (A++M++B)) (hc:Chg (Dj ix pb M) w w')
  (box:Blk w'.heap ix 216 [.slice pb' (A++N++B).length cb',.int .i64 (((A++N++B).flatMap Al.es).length:Int)]) (rows:Go.V.Own w' 0 217 Ay pb' cb' (A++N++B))
  (own:∀b∈N,Go.V.Own w' 0 219 AB b.p b.c b.es∧b.es≠[]) (ap:N.Pairwise (fun a b=>blk a.p≠blk b.p))
  (new:∀b∈N,∀k,blk b.p=some k→w.heap.size≤k∨∃b'∈M,blk b'.p=some k) (hpb:∀k,blk pb'=some k→w.heap.size≤k∨blk pb=some k) (ent:∀b∈N,∀e∈b.es,∃rs,AX w' F e.p e.c rs e.vs):Bz w' ix F pb' cb' (A++N++B):=by
 have hM:∀b∈M,b∈A++M++B:=fun b hb=>by simp [hb]
 have hap:=h.apart
 rw [List.pairwise_append,List.pairwise_append] at hap
 obtain ⟨⟨hA,hMM,hAM⟩,hB,hAB⟩:=hap
 have hin:∀a,a∈A∨a∈B→a∈A++M++B:=fun a ha=>by rcases ha with ha|ha <;> simp [ha]
 have aM:∀a,a∈A∨a∈B→∀b∈M,blk a.p≠blk b.p:=fun a ha b hb=>by
  rcases ha with ha|ha
  ·exact hAM a ha b hb
  ·exact fun e=>hAB b (by simp [hb]) a ha e.symm
 have aN:∀a,a∈A∨a∈B→∀b∈N,blk a.p≠blk b.p:=fun a ha b hb e=>by
  obtain ⟨k,h1,h2⟩:=h.bks (hin a ha)
  rcases new b hb k (by rw [← e];exact h1) with h3|⟨b',h3,h4⟩
  ·omega
  ·exact aM a ha b' h3 (by rw [h1,h4])
 have keepO:∀a,a∈A∨a∈B→Go.V.Own w' 0 219 AB a.p a.c a.es:=fun a ha=>by
  have ho:=(h.blok a (hin a ha)).1
  refine Own.chg ho hc fun k hk hG=>?_
  obtain ⟨cur,h1⟩:=Go.V.Own.at ho hk
  rcases hG with rfl|hG|⟨b,hb,hG⟩
  ·have h2:=h.box
   unfold Blk at h2
   rw [h1] at h2;injection h2 with h2;injection h2 with _ h2;exact absurd h2 (by decide)
  ·obtain ⟨cur',h2⟩:=Go.V.Own.at h.rows hG
   rw [h1] at h2;injection h2 with h2;injection h2 with _ h2;exact absurd h2 (by decide)
  ·exact aM a ha b hb (by rw [hk,hG])
 have hkp:=h.keep hM hc
 refine ⟨box,rows,fun b hb=>?_,?_,fun b hb e he=>?_,fun k hk=>?_,fun k hk=>?_⟩
 ·rcases List.mem_append.1 hb with hb|hb
  ·rcases List.mem_append.1 hb with hb|hb
   ·exact ⟨keepO b (.inl hb),(h.blok b (hin b (.inl hb))).2⟩
   ·exact own b hb
  ·exact ⟨keepO b (.inr hb),(h.blok b (hin b (.inr hb))).2⟩
 ·rw [List.pairwise_append,List.pairwise_append]
  refine ⟨⟨hA,ap,fun a ha b hb=>aN a (.inl ha) b hb⟩,hB,fun a ha b hb=>?_⟩
  rcases List.mem_append.1 ha with ha|ha
  ·exact hAB a (by simp [ha]) b hb
  ·exact fun e=>aN b (.inr hb) a ha e.symm
 ·rcases List.mem_append.1 hb with hb|hb
  ·rcases List.mem_append.1 hb with hb|hb
   ·exact hkp b (hin b (.inl hb)) e he
   ·exact ent b hb e he
  ·exact hkp b (hin b (.inr hb)) e he
 ·exact (h.typ k hk).same (hc.block k (h.typ k hk).lt fun hG=>(h.typ k hk).not (h.ixb hM hG))
 ·have hil:=h.box.lt
  rcases hk with hk|⟨b,hb,hk⟩
  ·rcases hpb k hk with h1|h1
   ·omega
   ·exact h.low k (.inl h1)
  ·rcases List.mem_append.1 hb with hb|hb
   ·rcases List.mem_append.1 hb with hb|hb
    ·exact h.low k (.inr ⟨b,hin b (.inl hb),hk⟩)
    ·rcases new b hb k hk with h1|⟨b',h1,h2⟩
     ·omega
     ·exact h.low k (.inr ⟨b',hM b' h1,h2⟩)
   ·exact h.low k (.inr ⟨b,hin b (.inr hb),hk⟩)
theorem Bz.chgT (h:Bz w ix F pb cb bl) (hM:∀b∈M,b∈bl) (hc:Chg (Dj ix pb M) w w'):FP ix w w':=hc.mono fun k _ hG=>⟨by
 rcases hG with rfl|hG|⟨b,hb,hG⟩
 ·exact Nat.le_refl _
 ·exact h.low k (.inl hG)
 ·exact h.low k (.inr ⟨b,hM b hb,hG⟩),h.ixb hM hG⟩
theorem Chg.step {G:Nat→Prop} {w w1 w2:World} {row:Option Nat} (h:Chg G w w1) (hg:w1.grownBy w2 row) (hr:∀k,row=some k→k<w.heap.size→G k):Chg G w w2 :=
 Chg.trans h (Chg.grown (G:=fun k=>row=some k) hg (fun _ hk=>hk)) (fun k hk hn h2=>hn (hr k h2 hk))
theorem Chg.then {G:Nat→Prop} {w w1 w2:World} (h:Chg G w w1) (hx:Ext w1 w2):Chg G w w2:=Chg.trans h (Chg.ext (G:=G) hx) (fun _ _ h=>h)
theorem BK.cases {w:World} {p p':Option Addr} (h:BK w p p'):blk p'=blk p∨∀k,blk p'=some k→w.heap.size≤k:=by unfold BK at h;exact h
theorem Pt {bl:List Al} (hne:∀b∈bl,b.es≠[]):bl.length≤(bl.flatMap Al.es).length:=by
 induction bl with
 | nil=>simp
 | cons b bl ih =>
  have h1:=ih (fun b' hb'=>hne b' (by simp [hb']))
  have h2:=List.length_pos_iff.2 (hne b (by simp))
  simp only [List.flatMap_cons,List.length_append,List.length_cons] at *;omega
theorem set_mid {α:Type} (A B:List α) (b c:α):(A++b :: B).set A.length c=A++c :: B:=by simp
theorem Pq {w:World} {ix:Nat} {F:Nat→Prop} {pb:Option Addr} {cb:Nat} {bl:List Al} {e:Ent} {rs:List Aw} {i j:Nat} (hI:Bz w ix F pb cb bl) (hn:(bl.flatMap Al.es).length≤1000) (hf:WQ bl e.key i j false) (hch:AX w F e.p e.c rs e.vs) :
  Ctr Tryz.prog 103 [.pointer (some (adr (bx ix) 0)),.int .i64 (i:Int),.int .i64 (j:Int),.agg (AB.enc e).toArray] w (fun _ w'=>∃pb' cb' bl',Bz w' ix F pb' cb' bl'∧FP ix w w' ∧
   ∃X Y,bl.flatMap Al.es=X++Y∧bl'.flatMap Al.es=X++e :: Y∧(∀x∈X,blt x.key e.key=true)∧∀y,Y.head?=some y→blt y.key e.key=false∧y.key≠e.key):=by
 have hlix:=hI.box.lt
 refine Ac Tryz.func103 Tryz.ntmps103 rfl rfl rfl ?_
 repeat' (refine R1 ?_)
 refine Q1 ?_;refine Q8 ?_;intro a1 w1 ha1 hA1 hx1 hs1
 replace hA1:Blk w1.heap a1 219 (AB.enc e):=hA1
 have hbox:=hI.box.ext hx1
 repeat' (first|refine R1 ?_|(refine Q1 ?_;first|(refine Q2 (hu:=T.f216_1) ?_)|(refine Q3 (hu:=T.p3) ?_))|refine R2 ?_|fail)
 refine Q1 ?_;refine Q5 T.z3 hbox ?_;intro w2 hB2 hg2 hs2
 replace hB2:Blk w2.heap ix 216 [.slice pb bl.length cb,.int .i64 (((bl.flatMap Al.es).length:Int)+1)]:=hB2
 replace hA1:=hA1.grown hg2 (by intro e;injection e with e;omega)
 have hc2:∀M,Chg (Dj ix pb M) w w2:=fun M=>Chg.trans (Chg.ext hx1) (Chg.grown hg2 (fun k hk=>.inl (by injection hk with hk;exact hk.symm))) (fun _ _ h=>h)
 by_cases h0:bl.length=0
 ·obtain rfl:bl=[]:=List.eq_nil_of_length_eq_zero h0
  repeat' (first|refine R1 ?_|(refine Q1 ?_;first|(refine Q2 (hu:=T.f216_0) ?_)|(refine Q3 (hu:=T.p214) ?_)|(refine Q6 (hu:=T.s214) ?_)|refine Q11 T.a219 ?_)|refine R2 ?_|fail)
  refine Q1 ?_
  refine Q12 AB e T.s217 ?_
  intro p3 w3 hp3 hs3 hV3 hx3 hz3
  skip
  refine Q1 ?_
  refine Q12 Ay ⟨p3,1,[e]⟩ T.s214 ?_
  intro p4 w4 hp4 hs4 hV4 hx4 hz4
  have hB4:=hB2.ext (hx3.trans hx4)
  repeat' (refine Q1 ?_;first|refine Q21 ?_|(refine Q2 (hu:=T.f216_0) ?_))
  refine Q1 ?_;refine Q5 T.z214 hB4 ?_;intro w5 hB5 hg5 hs5
  repeat' (first|refine R1 ?_|refine R2 ?_|fail)
  refine Ze Tryz.results103 (vs:=[]) rfl ?_
  have hc5:Chg (Dj ix pb []) w w5:=Chg.trans (hc2 []) (Chg.trans (Chg.ext (hx3.trans hx4)) (Chg.grown hg5 (fun k hk=>.inl (by injection hk with hk;exact hk.symm))) (fun _ _ h=>h)) (fun _ _ h=>h)
  have zz:ix<w2.heap.size:=hB2.lt
  have o3:Go.V.Own w5 0 219 AB p3 1 [e]:=by
   rw [hp3]
   exact Own.ofBlk (Nat.zero_le _) (((hV3.ext hx4)).grown hg5 (by intro e;injection e with e;omega)) rfl (by decide) (by simp) (List.take_of_length_le (by simp [AB]))
  have o4:Go.V.Own w5 0 217 Ay p4 1 [⟨p3,1,[e]⟩]:=by
   rw [hp4]
   exact Own.ofBlk (Nat.zero_le _) (hV4.grown hg5 (by intro e;injection e with e;omega)) rfl (by decide) (by simp) (List.take_of_length_le (by simp [Ay]))
  have zw:w.heap.size≤w2.heap.size:=(hc2 []).size
  refine ⟨p4,1,[⟨p3,1,[e]⟩],Bz.patch (A:=[]) (M:=[]) (N:=[⟨p3,1,[e]⟩]) (B:=[]) hI hc5 hB5 o4 (fun b hb=>?_) (List.pairwise_singleton _ _) (fun b hb k hk=>?_) (fun k hk=>.inl (by rw [hp4] at hk;simp [blk] at hk;have:=hx3.size;omega)) (fun b hb x hx=>?_),hI.chgT (M:=[]) (fun b hb=>by cases hb) hc5,[],[],rfl,rfl,fun x hx=>by simp at hx,fun y hy=>by simp at hy⟩
  ·simp at hb;subst hb;exact ⟨o3,by simp⟩
  ·simp at hb;subst hb;left;rw [hp3] at hk;simp [blk] at hk;omega
  ·simp at hb;subst hb;simp at hx;subst hx
   exact ⟨rs,hI.keepF (M:=[]) (fun b hb=>by cases hb) hc5 hch⟩
 have hmid:∃A b B C D,bl=A++b :: B∧b.es=C++D∧(∀x∈A.flatMap Al.es++C,blt x.key e.key=true)∧(∀y,(D++B.flatMap Al.es).head?=some y→blt y.key e.key=false∧y.key≠e.key)∧((i=bl.length∧A.length+1=bl.length∧C=b.es)∨(i=A.length∧j=C.length)):=by
  rcases hf with ⟨h1,h2,_,h3⟩|⟨A,b,B,C,e0,D,h1,h2,h3,h4,h5,h6,h7⟩
  ·obtain ⟨b,hb⟩:=Aj (xs:=bl) (k:=bl.length - 1) (by omega)
   have h4:=DD hb
   rw [show bl.length - 1+1=bl.length by omega,List.drop_length] at h4
   refine ⟨bl.take (bl.length - 1),b,[],b.es,[],h4,by simp,fun x hx=>h3 x ?_,fun y hy=>by simp at hy,.inl ⟨h1,by rw [List.length_take];omega,rfl⟩⟩
   rw [h4];simpa using hx
  ·refine ⟨A,b,B,C,e0 :: D,h1,h2,h6,fun y hy=>?_,.inr ⟨h3,h4⟩⟩
   simp at hy;subst hy
   exact ⟨h7,by simpa using h5⟩
 obtain ⟨A,b,B,C,D,hbl,hbe,hX,hY,hij⟩:=hmid
 have hbm:b∈bl:=by rw [hbl];simp
 have hbi:bl[A.length]?=some b:=by rw [hbl];simp
 obtain ⟨gb,hgb⟩:=hI.bk hbm
 obtain ⟨pr,hpr⟩:∃pr,pb=bx pr:=by
  obtain ⟨g0,cur0,e0,_⟩:=hI.rows.toBlk (hI.rows.some_of_pos (by rw [hbl];simp;omega))
  exact ⟨g0,e0⟩
 have hob:=(hI.blok b hbm).1
 have hne1:gb≠ix:=fun e=>by
  obtain ⟨cur,h1⟩:=hob.at (k:=gb) (by rw [hgb];rfl)
  have h2:=hI.box
  unfold Blk at h2
  rw [e,h2] at h1;injection h1 with h1;injection h1 with _ h1;exact absurd h1 (by decide)
 have hne2:gb≠pr:=fun e=>by
  obtain ⟨cur,h1⟩:=hob.at (k:=gb) (by rw [hgb];rfl)
  obtain ⟨cur',h2⟩:=hI.rows.at (k:=pr) (by rw [hpr];rfl)
  rw [e,h2] at h1;injection h1 with h1;injection h1 with _ h1;exact absurd h1 (by decide)
 have hne3:pr≠ix:=fun e=>by
  obtain ⟨cur,h1⟩:=hI.rows.at (k:=pr) (by rw [hpr];rfl)
  have h2:=hI.box
  unfold Blk at h2
  rw [e,h2] at h1;injection h1 with h1;injection h1 with _ h1;exact absurd h1 (by decide)
 obtain rfl:=hpr
 have hel:b.es.length≤(bl.flatMap Al.es).length:=by rw [hbl];simp;omega
 have hbl1:=Pt (fun b hb=>(hI.blok b hb).2)
 have hlen:bl.length=A.length+1+B.length:=by rw [hbl];simp;omega
 have hrows2:Go.V.Own w2 0 217 Ay (bx pr) cb bl:=(hI.rows.ext hx1).kept hg2 (fun a ha e=>by injection ha with ha;rw [← ha] at e;injection e with e;exact hne3 e.symm)
 have hob2:Go.V.Own w2 0 219 AB b.p b.c b.es:=(hob.ext hx1).kept hg2 (fun a ha e=>by rw [hgb] at ha;injection ha with ha;rw [← ha] at e;injection e with e;exact hne1 e.symm)
 have hgl:gb<w.heap.size:=(hob.ge gb (by rw [hgb];rfl)).2
 have hrs:=hrows2.sl
 have hcl:=hrs.cell A.length b hbi 0 (.slice b.p b.es.length b.c) rfl
 have hbb:=hrs.bound
 have hcl2:(b.es:List Ent).length=C.length+D.length:=by rw [hbe];simp
 rcases hij with ⟨hi1,hi2,hi3⟩|⟨hi1,hi2⟩
 ·have hii:(i:Int)=bl.length:=by omega
  repeat' (first|refine R1 ?_|(refine Q1 ?_;first|(refine Q10 T.s214 hrs.ok (q:=A.length) (hj:=by omega) ?_)|(refine Q9 (q:=A.length) (e:=Ay) (hu:=T.p217) (hs:=hrs) (hq:=hbi) ?_)|(refine Q2 (hu:=T.f216_0) ?_)|(refine Q3 (hu:=T.p214) ?_)|(refine Q6 (hu:=by (first|exact T.s214|exact T.s217)) ?_))|refine R2 ?_|(apply Za;exact rfl;all_goals (intro h;try (exfalso;omega)))|fail)
  all_goals try (exfalso;omega)
  refine Zn [(0,.pointer (some (adr (bx ix) 0))),(1,.int .i64 (A.length:Int)),(2,.int .i64 (C.length:Int)),(7,.pointer (some (adr (bx a1) 0)))] ⟨rfl,by show some (Value.int .i64 _)=_;congr 2;omega,by show some (Value.int .i64 _)=_;rw [hi3],rfl,trivial⟩ ?_
  clear hf hbox;try clear hii
  refine Zf 1 [gb] [0,1,2,3,4,5,6,7,8,9,10,11] mixed (by decide +kernel) ?_
  have hcl':hcell w2.drew.heap (adr (bx pr) (A.length * 1))=some (.slice b.p b.es.length b.c):=hcl
  have hex1:AA [gb] ix=false:=by simp [AA];omega
  have hex2:AA [gb] pr=false:=by simp [AA];omega
  have hex3:AA [gb] a1=false:=by simp [AA];omega
  repeat' (refine Q1 ?_;first|refine Q19 ?_|refine Q21 ?_|(refine Q13 T.s214 (q:=A.length) (ho:=hrs.ok) ?_)|(refine Q76 T.p217 hcl' hex2 (p:=bx pr) (m:=A.length * 1) ?_)|refine Q75 T.a219 hA1 hex3 ?_|(refine Q2 (hu:=T.f216_0) ?_)|(refine Q31 (hu:=T.p214) ?_))
  refine Q1 ?_
  refine Q12 AB e T.s217 ?_
  intro p3 w3 hp3 hs3 hV3 hx3 hz3
  replace hx3:Ext w2 w3:=(Ext.drew Ext.rfl').trans hx3
  replace hz3:w3.heap.size=w2.heap.size+1:=hz3
  replace hp3:p3=bx w2.heap.size:=hp3
  have hc3:=(hc2 [b]).then hx3
  have hob3:=hob2.ext hx3
  skip
  refine Q1 ?_;refine Q36 (hc:=JY (i:=C.length) hob3 (Nat.zero_le _) (by omega) hp3 hs3 hV3 (by rw [hgb];intro e0;injection e0 with e0;have e1:gb=w2.heap.size:=e0;omega) (by omega)) ?_;rintro _ w4 ⟨p4,c4,rfl,ha4⟩;refine ⟨(by first|exact .inl rfl|exact .inr (Bd.of_grown ha4.grown (fun k hk=>by rw [hgb] at hk;simp [blk] at hk;simp [AA,hk]))),?_⟩
  have hce:b.es.take C.length++[e]++b.es.drop C.length=C++[e]++D:=by rw [hbe,List.take_left' rfl,List.drop_left' rfl]
  rw [hce] at ha4 ⊢
  obtain ⟨ES,hES⟩:∃ES,C++[e]++D=ES:=⟨_,rfl⟩
  have hESl:ES.length=b.es.length+1:=by rw [← hES,hcl2];simp;omega
  have hESm:∀x∈ES,x=e∨x∈b.es:=fun x hx=>by
   rw [← hES] at hx
   rw [hbe]
   simp only [List.mem_append,List.mem_singleton] at hx ⊢
   rcases hx with (h1|h1)|h1
   ·exact .inr (.inl h1)
   ·exact .inl h1
   ·exact .inr (.inr h1)
  rw [hES] at ha4 ⊢
  have hgr4:=ha4.grown
  rw [hgb] at hgr4
  have hc4:Chg (Dj ix (bx pr) [b]) w w4:=hc3.step hgr4 (fun k hk _=>.inr (.inr ⟨b,by simp,by rw [hgb];exact hk⟩))
  have hB4:=(hB2.ext hx3).grown hgr4 (by intro e;simp [blk] at e;exact hne1 e)
  have hrows4:Go.V.Own w4 0 217 Ay (bx pr) cb bl:=(hrows2.ext hx3).kept hgr4 (fun a ha e=>by injection ha with ha;rw [← ha] at e;simp [blk] at e;exact hne2 e)
  have hnew4:∀k,blk p4=some k→w.heap.size≤k∨k=gb:=fun k hk=>by
   rcases BK.cases ha4.new with h1|h1
   ·right;rw [h1,hgb] at hk;simp [blk] at hk;exact hk.symm
   ·left;have:=h1 k hk;omega
  have ho4:=ha4.own
  have hfl:(bl.flatMap Al.es)=A.flatMap Al.es++C++(D++B.flatMap Al.es):=by rw [hbl];simp [hbe]
  by_cases hbig:128<ES.length
  ·have hq:IntKind.i64.wrap ((ES.length:Int).tdiv 2)=((ES.length / 2:Nat):Int):=by rw [Int.tdiv_eq_ediv_of_nonneg (by omega),wrap_i64 (by omega) (by omega)];omega
   obtain ⟨H,hH⟩:∃H,ES.length / 2=H:=⟨_,rfl⟩
   rw [hH] at hq
   have hok4:=ho4.sl.ok
   have hle4:=hok4.le
   repeat' (first|refine R1 ?_|(refine Q1 ?_;first|(refine Q55 (r:=(H:Int)) (hr:=hq) ?_)|(refine Q6 (hu:=T.s217) ?_))|refine R2 ?_|(apply Za;exact rfl;all_goals (intro h;try (exfalso;omega)))|fail)
   all_goals try (exfalso;omega)
   refine Zf 1 [pr] [0,1,2,3,4,5,6,7,8,9,10,11,12,13,14,15] mixed (by decide +kernel) ?_
   have hex4:AA [pr] ix=false:=by simp [AA];omega
   have hdl:(ES.drop H).length=ES.length - H:=List.length_drop
   have htl:(ES.take H).length=H:=by rw [List.length_take];omega
   repeat' (refine Q1 ?_;first|refine Q19 ?_|refine Q21 ?_|(refine Q18 T.s217 hok4 (q:=H) ?_)|(refine Q2 (hu:=T.f216_0) ?_)|(refine Q31 (hu:=T.p214) ?_)|refine Q52 ?_)
   refine Q1 ?_;refine Q36 (hc:=JI ((ho4.ext (Ext.drew Ext.rfl')).sl.drop (l:=H) (by omega)) (by omega) hdl) ?_;rintro _ w5 ⟨p5,c5,rfl,ho5,hx5⟩;refine ⟨(by first|exact .inl rfl|exact .inr hx5.toS),?_⟩
   replace hx5:Ext w4 w5:=(Ext.drew Ext.rfl').trans hx5
   replace ho5:Go.V.Own w5 w4.heap.size 219 AB p5 c5 (ES.drop H):=ho5
   skip
   refine Q1 ?_
   refine Q12 Ay ⟨p5,c5,ES.drop H⟩ T.s214 (hc:=by (show [Value.slice p5 (ES.length - H) c5]=[Value.slice p5 (ES.drop H).length c5];rw [hdl])) ?_
   intro p6 w6 hp6 hs6 hV6 hx6 hz6
   have hrows6:=(hrows4.ext hx5).ext hx6
   have z5:=hx5.size
   have hprl:pr<w4.heap.size:=(hrows4.ge pr rfl).2
   skip
   refine Q1 ?_;refine Q36 (hc:=Ka (i:=A.length+1) hrows6 (Nat.zero_le _) (by omega) hp6 hs6 hV6 (by intro e0;injection e0 with e0;have e1:pr=w5.heap.size:=e0;omega) (by omega)) ?_;rintro _ w7 ⟨p7,c7,rfl,ha7⟩;refine ⟨(by first|exact .inl rfl|exact .inr (Bd.of_grown ha7.grown (fun k hk=>by simp [blk] at hk;simp [AA,hk]))),?_⟩
   obtain ⟨N2,hN2⟩:∃N2:Al,N2=⟨p5,c5,ES.drop H⟩:=⟨_,rfl⟩
   rw [← hN2] at ha7 ⊢
   have hre:bl.take (A.length+1)++[N2]++bl.drop (A.length+1)=A++b :: ([N2]++B):=by
    rw [hbl,show A++b :: B=(A++[b])++B by simp,List.take_left' (by simp),List.drop_left' (by simp)];simp
   rw [hre] at ha7 ⊢
   have hgr7:w6.grownBy w7 (some pr):=ha7.grown
   have hB7:=((hB4.ext hx5).ext hx6).grown hgr7 (by intro e0;injection e0 with e0;exact hne3 e0)
   have ho6:=(ho4.ext hx5).ext hx6
   have ho56:=ho5.ext hx6
   have ho7:Go.V.Own w7 0 219 AB p4 c4 ES:=ho6.kept hgr7 (fun a ha e0=>hrows6.neT ho6 (by decide) a ha e0)
   have ho57:Go.V.Own w7 w4.heap.size 219 AB p5 c5 (ES.drop H):=ho56.kept hgr7 (fun a ha e0=>hrows6.neT ho56 (by decide) a ha e0)
   have hc7:Chg (Dj ix (bx pr) [b]) w w7:=((hc4.then hx5).then hx6).step hgr7 (fun k hk _=>.inr (.inl hk))
   have hrows7:=ha7.own
   repeat' (refine Q1 ?_;first|refine Q21 ?_|(refine Q2 (hu:=T.f216_0) ?_))
   refine Q1 ?_;refine Q5 T.z214 hB7 ?_;intro w8 hB8 hg8 hs8
   have hix:∀k,some ix=some k→k=ix:=fun k hk=>by injection hk with hk;exact hk.symm
   have hrows8:Go.V.Own w8 0 217 Ay p7 c7 (A++b :: ([N2]++B)):=hrows7.kept hg8 (fun a ha e0=>hrows7.neB hB7 (by decide) (by rw [ha];exact e0.symm))
   have ho8:Go.V.Own w8 0 219 AB p4 c4 ES:=ho7.kept hg8 (fun a ha e0=>ho7.neB hB7 (by decide) (by rw [ha];exact e0.symm))
   have ho58:Go.V.Own w8 w4.heap.size 219 AB p5 c5 (ES.drop H):=ho57.kept hg8 (fun a ha e0=>ho57.neB hB7 (by decide) (by rw [ha];exact e0.symm))
   have hc8:Chg (Dj ix (bx pr) [b]) w w8:=hc7.step hg8 (fun k hk _=>.inl (hix k hk))
   repeat' (first|refine R1 ?_|(refine Q1 ?_;(refine Q18 T.s217 hok4 (q:=H) ?_))|fail)
   obtain ⟨g4,cur4,hp4,_,hA8,hcl8,hcm8,hnc8,htk8⟩:=ho8.toBlk (ho8.some_of_pos (by omega))
   have hsz2:AB.sz=2:=rfl
   rw [hsz2] at hcl8 htk8
   refine Q1 ?_
   apply ZT (gb:=g4) (o:=H * 2) (cur:=cur4) (T:=219);exact T.s217;exact rfl
   ·exact fun _=>by rw [hp4];exact Bc (by omega)
   ·exact hA8
   ·rw [hcl8];omega
   ·exact T.zero219
   ·decide
   ·exact rfl
   ·decide
   ·exact rfl
   ·exact rfl
   ·exact rfl
   intro w9 vs hvs hA9 hg9 hz9
   have hg4l:g4<w4.heap.size:=(ho4.ge g4 (by rw [hp4];rfl)).2
   have ho9:Go.V.Own w9 0 219 AB p4 c4 (ES.take H):=by
    rw [hp4]
    refine Own.ofBlk (Nat.zero_le _) hA9 ?_ hcm8 (by omega) ?_
    ·simp only [List.length_append,List.length_take,List.length_drop,hvs,hcl8,hsz2];omega
    ·rw [htl,hsz2,List.append_assoc,List.take_append_of_le_length (by simp only [List.length_take,hcl8];omega),List.take_take,Nat.min_self]
     have:=Dc AB ES H (by omega)
     rw [hsz2] at this
     rw [← this,← htk8,List.take_take]
     congr 1;omega
   have hB9:=hB8.grown hg9 (by intro e0;injection e0 with e0;exact ho8.neB hB8 (by decide) (by rw [hp4,e0];rfl))
   have hrows9:Go.V.Own w9 0 217 Ay p7 c7 (A++b :: ([N2]++B)):=hrows8.kept hg9 (fun a ha e0=>ho8.neT hrows8 (by decide) a ha (by rw [hp4];exact e0))
   have ho59:Go.V.Own w9 w4.heap.size 219 AB p5 c5 (ES.drop H):=ho58.kept hg9 (fun a ha e0=>by
    have:=(ho58.ge a.block (by rw [ha];rfl)).1
    injection e0 with e0;omega)
   have hc9:Chg (Dj ix (bx pr) [b]) w w9:=hc8.step hg9 (fun k hk hlt=>by
    injection hk with hk
    rcases hnew4 g4 (by rw [hp4];rfl) with h1|h1
    ·omega
    ·exact .inr (.inr ⟨b,by simp,by rw [hgb,← hk,h1];rfl⟩))
   have hbi9:(A++b :: ([N2]++B))[A.length]?=some b:=by simp
   have hll:(A++b :: ([N2]++B)).length=bl.length+1:=by rw [hlen];simp;omega
   repeat' (first|refine R1 ?_|(refine Q1 ?_;first|(refine Q23 T.s217 (q:=H) (hj:=rfl) ?_)|(refine Q13 T.s214 (q:=A.length) (ho:=hrows9.sl.ok) ?_)|(refine Q2 (hu:=T.f216_0) ?_)|(refine Q3 (hu:=T.p214) ?_))|refine R2 ?_|fail)
   refine Q1 ?_
   refine Q42 (⟨p4,c4,ES.take H⟩:Al) T.z217 hrows9 hbi9 (off:=0) (q:=A.length) (hel:=by (show [Value.slice p4 (ES.take H).length c4]=[Value.slice p4 H c4];rw [htl])) ?_
   intro wA haA hzA
   have hcA:Chg (Dj ix (bx pr) [b]) w wA:=hc9.step haA.grown (fun k hk hlt=>by
    rcases BK.cases ha7.new with h1|h1
    ·exact .inr (.inl (by rw [← h1];exact hk))
    ·have:=h1 k hk;have:=hx6.size;have:=hc4.size;omega)
   have hBA:=hB9.grown haA.grown (hrows9.neB hB9 (by decide))
   have hoA:Go.V.Own wA 0 219 AB p4 c4 (ES.take H):=ho9.kept haA.grown (fun a ha e0=>hrows9.neT ho9 (by decide) a ha e0)
   have ho5A:Go.V.Own wA w4.heap.size 219 AB p5 c5 (ES.drop H):=ho59.kept haA.grown (fun a ha e0=>hrows9.neT ho59 (by decide) a ha e0)
   have hrowsA:=haA.own
   rw [set_mid] at hrowsA
   obtain ⟨N1,hN1⟩:∃N1:Al,N1=⟨p4,c4,ES.take H⟩:=⟨_,rfl⟩
   rw [← hN1] at hrowsA
   repeat' apply Zu
   refine Zk Tryz.results103 (vs:=[]) rfl ?_
   have hfA:(A++[N1,N2]++B).flatMap Al.es=(A.flatMap Al.es++C)++e :: (D++B.flatMap Al.es):=by
    have:ES.take H++ES.drop H=C++[e]++D:=by rw [List.take_append_drop,hES]
    simp only [List.flatMap_append,List.flatMap_cons,List.flatMap_nil,List.append_nil,hN1,hN2,this]
    simp
   have hlA:(A++b :: ([N2]++B)).length=(A++[N1,N2]++B).length:=by simp <;> omega
   have hnA:(((bl.flatMap Al.es).length:Int)+1)=(((A++[N1,N2]++B).flatMap Al.es).length:Int):=by rw [hfA,hfl];simp;omega
   replace hBA:Blk wA.heap ix 216 [.slice p7 (A++b :: ([N2]++B)).length c7,.int .i64 (((bl.flatMap Al.es).length:Int)+1)]:=hBA
   rw [hlA,hnA] at hBA
   have hI':Bz w ix F (bx pr) cb (A++[b]++B):=by rw [hbl] at hI;simpa using hI
   have hmb:∀b'∈[b],b'∈A++[b]++B:=fun b' hb'=>by simp at hb';simp [hb']
   have hESt:∀x,x∈ES→∃rs,AX wA F x.p x.c rs x.vs:=fun x hx=>by
    rcases hESm x hx with h1|h1
    ·subst h1;exact ⟨rs,hI'.keepF (M:=[b]) hmb hcA hch⟩
    ·exact hI'.keep (M:=[b]) hmb hcA b (by simp) x h1
   have hb2:∀b',b'∈[N1,N2]→b'=N1∨b'=N2:=fun b' hb'=>by simpa using hb'
   refine ⟨p7,c7,A++[N1,N2]++B,hI'.patch hcA hBA (by simpa using hrowsA) (fun b' hb'=>?_) ?_ (fun b' hb' k hk=>?_) (fun k hk=>by
    rcases BK.cases ha7.new with h1|h1
    ·exact .inr (by rw [← h1];exact hk)
    ·left;have:=h1 k hk;have:=hx6.size;have:=hc4.size;omega) (fun b' hb' x hx=>?_),hI'.chgT (M:=[b]) hmb hcA,_,_,hfl,hfA,hX,hY⟩
   ·rcases hb2 b' hb' with h1|h1
    ·rw [h1,hN1];exact ⟨hoA,by intro e0;simp only at e0;rw [e0] at htl;simp at htl;omega⟩
    ·rw [h1,hN2];exact ⟨ho5A.base (Nat.zero_le _),by intro e0;simp only at e0;rw [e0] at hdl;simp at hdl;omega⟩
   ·refine List.Pairwise.cons (fun b' hb'=>?_) (List.pairwise_singleton _ _)
    simp at hb'
    rw [hb',hN1,hN2]
    intro e0
    simp only at e0
    rw [hp4] at e0
    have:=(ho5A.ge g4 e0.symm).1
    omega
   ·rcases hb2 b' hb' with h1|h1
    ·rw [h1,hN1] at hk
     rcases hnew4 k hk with h2|h2
     ·exact .inl h2
     ·exact .inr ⟨b,by simp,by rw [hgb,h2];rfl⟩
    ·rw [h1,hN2] at hk
     have:=(ho5A.ge k hk).1
     have:=hc4.size
     left;omega
   ·rcases hb2 b' hb' with h1|h1
    ·rw [h1,hN1] at hx;exact hESt x (List.mem_of_mem_take hx)
    ·rw [h1,hN2] at hx;exact hESt x (List.mem_of_mem_drop hx)
  ·repeat' (first|refine R1 ?_|(refine Q1 ?_;first|(refine Q13 T.s214 (q:=A.length) (ho:=hrows4.sl.ok) ?_)|(refine Q2 (hu:=T.f216_0) ?_)|(refine Q3 (hu:=T.p214) ?_)|(refine Q6 (hu:=T.s217) ?_))|refine R2 ?_|(apply Za;exact rfl;all_goals (intro h;try (exfalso;omega)))|fail)
   all_goals try (exfalso;omega)
   refine Q1 ?_
   refine Q42 (⟨p4,c4,ES⟩:Al) T.z217 hrows4 hbi (off:=0) (q:=A.length) ?_
   intro w5 ha5 hz5
   have hc5:Chg (Dj ix (bx pr) [b]) w w5:=hc4.step ha5.grown (fun k hk _=>.inr (.inl hk))
   have hB5:=hB4.grown ha5.grown (by intro e;simp [blk] at e;exact hne3 e)
   have ho5:Go.V.Own w5 0 219 AB p4 c4 ES:=ho4.kept ha5.grown (fun a ha e=>(hrows4.neT ho4 (by decide)) a ha e)
   have hrows5:=ha5.own
   rw [hbl,set_mid] at hrows5
   repeat' apply Zu
   refine Zk Tryz.results103 (vs:=[]) rfl ?_
   have hl5:bl.length=(A++[(⟨p4,c4,ES⟩:Al)]++B).length:=by rw [hlen];simp;omega
   have hf5:(A++[(⟨p4,c4,ES⟩:Al)]++B).flatMap Al.es=(A.flatMap Al.es++C)++e :: (D++B.flatMap Al.es):=by simp [← hES]
   have hn5:(((bl.flatMap Al.es).length:Int)+1)=(((A++[(⟨p4,c4,ES⟩:Al)]++B).flatMap Al.es).length:Int):=by rw [hf5,hfl];simp;omega
   rw [hl5,hn5] at hB5
   have hI':Bz w ix F (bx pr) cb (A++[b]++B):=by rw [hbl] at hI;simpa using hI
   refine ⟨bx pr,cb,A++[⟨p4,c4,ES⟩]++B,hI'.patch hc5 hB5 (by simpa using hrows5) (fun b' hb'=>?_) (List.pairwise_singleton _ _) (fun b' hb' k hk=>?_) (fun k hk=>.inr hk) (fun b' hb' x hx=>?_),hI'.chgT (M:=[b]) (fun b' hb'=>by simp at hb';simp [hb']) hc5,_,_,hfl,hf5,hX,hY⟩
   ·simp at hb';subst hb';exact ⟨ho5,by intro e0;simp only at e0;rw [e0] at hESl;simp at hESl⟩
   ·simp at hb';subst hb'
    rcases hnew4 k hk with h1|h1
    ·exact .inl h1
    ·exact .inr ⟨b,by simp,by rw [hgb,h1];rfl⟩
   ·simp at hb';subst hb'
    rcases hESm x hx with h1|h1
    ·subst h1;exact ⟨rs,hI'.keepF (M:=[b]) (fun b' hb'=>by simp at hb';simp [hb']) hc5 hch⟩
    ·exact hI'.keep (M:=[b]) (fun b' hb'=>by simp at hb';simp [hb']) hc5 b (by simp) x h1
 ·subst hi1 hi2
  repeat' (first|refine R1 ?_|(refine Q1 ?_;first|(refine Q2 (hu:=T.f216_0) ?_)|(refine Q3 (hu:=T.p214) ?_)|(refine Q6 (hu:=T.s214) ?_))|refine R2 ?_|(apply Za;exact rfl;all_goals (intro h;try (exfalso;omega)))|fail)
  all_goals try (exfalso;omega)
  refine Zn [(0,.pointer (some (adr (bx ix) 0))),(1,.int .i64 (A.length:Int)),(2,.int .i64 (C.length:Int)),(7,.pointer (some (adr (bx a1) 0)))] ⟨rfl,rfl,rfl,rfl,trivial⟩ ?_
  clear hf hbox;try clear hii
  refine Zf 1 [gb] [0,1,2,3,4,5,6,7,8,9,10,11] mixed (by decide +kernel) ?_
  have hcl':hcell w2.drew.heap (adr (bx pr) (A.length * 1))=some (.slice b.p b.es.length b.c):=hcl
  have hex1:AA [gb] ix=false:=by simp [AA];omega
  have hex2:AA [gb] pr=false:=by simp [AA];omega
  have hex3:AA [gb] a1=false:=by simp [AA];omega
  repeat' (refine Q1 ?_;first|refine Q19 ?_|refine Q21 ?_|(refine Q13 T.s214 (q:=A.length) (ho:=hrs.ok) ?_)|(refine Q76 T.p217 hcl' hex2 (p:=bx pr) (m:=A.length * 1) ?_)|refine Q75 T.a219 hA1 hex3 ?_|(refine Q2 (hu:=T.f216_0) ?_)|(refine Q31 (hu:=T.p214) ?_))
  refine Q1 ?_
  refine Q12 AB e T.s217 ?_
  intro p3 w3 hp3 hs3 hV3 hx3 hz3
  replace hx3:Ext w2 w3:=(Ext.drew Ext.rfl').trans hx3
  replace hz3:w3.heap.size=w2.heap.size+1:=hz3
  replace hp3:p3=bx w2.heap.size:=hp3
  have hc3:=(hc2 [b]).then hx3
  have hob3:=hob2.ext hx3
  skip
  refine Q1 ?_;refine Q36 (hc:=JY (i:=C.length) hob3 (Nat.zero_le _) (by omega) hp3 hs3 hV3 (by rw [hgb];intro e0;injection e0 with e0;have e1:gb=w2.heap.size:=e0;omega) (by omega)) ?_;rintro _ w4 ⟨p4,c4,rfl,ha4⟩;refine ⟨(by first|exact .inl rfl|exact .inr (Bd.of_grown ha4.grown (fun k hk=>by rw [hgb] at hk;simp [blk] at hk;simp [AA,hk]))),?_⟩
  have hce:b.es.take C.length++[e]++b.es.drop C.length=C++[e]++D:=by rw [hbe,List.take_left' rfl,List.drop_left' rfl]
  rw [hce] at ha4 ⊢
  obtain ⟨ES,hES⟩:∃ES,C++[e]++D=ES:=⟨_,rfl⟩
  have hESl:ES.length=b.es.length+1:=by rw [← hES,hcl2];simp;omega
  have hESm:∀x∈ES,x=e∨x∈b.es:=fun x hx=>by
   rw [← hES] at hx
   rw [hbe]
   simp only [List.mem_append,List.mem_singleton] at hx ⊢
   rcases hx with (h1|h1)|h1
   ·exact .inr (.inl h1)
   ·exact .inl h1
   ·exact .inr (.inr h1)
  rw [hES] at ha4 ⊢
  have hgr4:=ha4.grown
  rw [hgb] at hgr4
  have hc4:Chg (Dj ix (bx pr) [b]) w w4:=hc3.step hgr4 (fun k hk _=>.inr (.inr ⟨b,by simp,by rw [hgb];exact hk⟩))
  have hB4:=(hB2.ext hx3).grown hgr4 (by intro e;simp [blk] at e;exact hne1 e)
  have hrows4:Go.V.Own w4 0 217 Ay (bx pr) cb bl:=(hrows2.ext hx3).kept hgr4 (fun a ha e=>by injection ha with ha;rw [← ha] at e;simp [blk] at e;exact hne2 e)
  have hnew4:∀k,blk p4=some k→w.heap.size≤k∨k=gb:=fun k hk=>by
   rcases BK.cases ha4.new with h1|h1
   ·right;rw [h1,hgb] at hk;simp [blk] at hk;exact hk.symm
   ·left;have:=h1 k hk;omega
  have ho4:=ha4.own
  have hfl:(bl.flatMap Al.es)=A.flatMap Al.es++C++(D++B.flatMap Al.es):=by rw [hbl];simp [hbe]
  by_cases hbig:128<ES.length
  ·have hq:IntKind.i64.wrap ((ES.length:Int).tdiv 2)=((ES.length / 2:Nat):Int):=by rw [Int.tdiv_eq_ediv_of_nonneg (by omega),wrap_i64 (by omega) (by omega)];omega
   obtain ⟨H,hH⟩:∃H,ES.length / 2=H:=⟨_,rfl⟩
   rw [hH] at hq
   have hok4:=ho4.sl.ok
   have hle4:=hok4.le
   repeat' (first|refine R1 ?_|(refine Q1 ?_;first|(refine Q55 (r:=(H:Int)) (hr:=hq) ?_)|(refine Q6 (hu:=T.s217) ?_))|refine R2 ?_|(apply Za;exact rfl;all_goals (intro h;try (exfalso;omega)))|fail)
   all_goals try (exfalso;omega)
   refine Zf 1 [pr] [0,1,2,3,4,5,6,7,8,9,10,11,12,13,14,15] mixed (by decide +kernel) ?_
   have hex4:AA [pr] ix=false:=by simp [AA];omega
   have hdl:(ES.drop H).length=ES.length - H:=List.length_drop
   have htl:(ES.take H).length=H:=by rw [List.length_take];omega
   repeat' (refine Q1 ?_;first|refine Q19 ?_|refine Q21 ?_|(refine Q18 T.s217 hok4 (q:=H) ?_)|(refine Q2 (hu:=T.f216_0) ?_)|(refine Q31 (hu:=T.p214) ?_)|refine Q52 ?_)
   refine Q1 ?_;refine Q36 (hc:=JI ((ho4.ext (Ext.drew Ext.rfl')).sl.drop (l:=H) (by omega)) (by omega) hdl) ?_;rintro _ w5 ⟨p5,c5,rfl,ho5,hx5⟩;refine ⟨(by first|exact .inl rfl|exact .inr hx5.toS),?_⟩
   replace hx5:Ext w4 w5:=(Ext.drew Ext.rfl').trans hx5
   replace ho5:Go.V.Own w5 w4.heap.size 219 AB p5 c5 (ES.drop H):=ho5
   skip
   refine Q1 ?_
   refine Q12 Ay ⟨p5,c5,ES.drop H⟩ T.s214 (hc:=by (show [Value.slice p5 (ES.length - H) c5]=[Value.slice p5 (ES.drop H).length c5];rw [hdl])) ?_
   intro p6 w6 hp6 hs6 hV6 hx6 hz6
   have hrows6:=(hrows4.ext hx5).ext hx6
   have z5:=hx5.size
   have hprl:pr<w4.heap.size:=(hrows4.ge pr rfl).2
   skip
   refine Q1 ?_;refine Q36 (hc:=Ka (i:=A.length+1) hrows6 (Nat.zero_le _) (by omega) hp6 hs6 hV6 (by intro e0;injection e0 with e0;have e1:pr=w5.heap.size:=e0;omega) (by omega)) ?_;rintro _ w7 ⟨p7,c7,rfl,ha7⟩;refine ⟨(by first|exact .inl rfl|exact .inr (Bd.of_grown ha7.grown (fun k hk=>by simp [blk] at hk;simp [AA,hk]))),?_⟩
   obtain ⟨N2,hN2⟩:∃N2:Al,N2=⟨p5,c5,ES.drop H⟩:=⟨_,rfl⟩
   rw [← hN2] at ha7 ⊢
   have hre:bl.take (A.length+1)++[N2]++bl.drop (A.length+1)=A++b :: ([N2]++B):=by
    rw [hbl,show A++b :: B=(A++[b])++B by simp,List.take_left' (by simp),List.drop_left' (by simp)];simp
   rw [hre] at ha7 ⊢
   have hgr7:w6.grownBy w7 (some pr):=ha7.grown
   have hB7:=((hB4.ext hx5).ext hx6).grown hgr7 (by intro e0;injection e0 with e0;exact hne3 e0)
   have ho6:=(ho4.ext hx5).ext hx6
   have ho56:=ho5.ext hx6
   have ho7:Go.V.Own w7 0 219 AB p4 c4 ES:=ho6.kept hgr7 (fun a ha e0=>hrows6.neT ho6 (by decide) a ha e0)
   have ho57:Go.V.Own w7 w4.heap.size 219 AB p5 c5 (ES.drop H):=ho56.kept hgr7 (fun a ha e0=>hrows6.neT ho56 (by decide) a ha e0)
   have hc7:Chg (Dj ix (bx pr) [b]) w w7:=((hc4.then hx5).then hx6).step hgr7 (fun k hk _=>.inr (.inl hk))
   have hrows7:=ha7.own
   repeat' (refine Q1 ?_;first|refine Q21 ?_|(refine Q2 (hu:=T.f216_0) ?_))
   refine Q1 ?_;refine Q5 T.z214 hB7 ?_;intro w8 hB8 hg8 hs8
   have hix:∀k,some ix=some k→k=ix:=fun k hk=>by injection hk with hk;exact hk.symm
   have hrows8:Go.V.Own w8 0 217 Ay p7 c7 (A++b :: ([N2]++B)):=hrows7.kept hg8 (fun a ha e0=>hrows7.neB hB7 (by decide) (by rw [ha];exact e0.symm))
   have ho8:Go.V.Own w8 0 219 AB p4 c4 ES:=ho7.kept hg8 (fun a ha e0=>ho7.neB hB7 (by decide) (by rw [ha];exact e0.symm))
   have ho58:Go.V.Own w8 w4.heap.size 219 AB p5 c5 (ES.drop H):=ho57.kept hg8 (fun a ha e0=>ho57.neB hB7 (by decide) (by rw [ha];exact e0.symm))
   have hc8:Chg (Dj ix (bx pr) [b]) w w8:=hc7.step hg8 (fun k hk _=>.inl (hix k hk))
   repeat' (first|refine R1 ?_|(refine Q1 ?_;(refine Q18 T.s217 hok4 (q:=H) ?_))|fail)
   obtain ⟨g4,cur4,hp4,_,hA8,hcl8,hcm8,hnc8,htk8⟩:=ho8.toBlk (ho8.some_of_pos (by omega))
   have hsz2:AB.sz=2:=rfl
   rw [hsz2] at hcl8 htk8
   refine Q1 ?_
   apply ZT (gb:=g4) (o:=H * 2) (cur:=cur4) (T:=219);exact T.s217;exact rfl
   ·exact fun _=>by rw [hp4];exact Bc (by omega)
   ·exact hA8
   ·rw [hcl8];omega
   ·exact T.zero219
   ·decide
   ·exact rfl
   ·decide
   ·exact rfl
   ·exact rfl
   ·exact rfl
   intro w9 vs hvs hA9 hg9 hz9
   have hg4l:g4<w4.heap.size:=(ho4.ge g4 (by rw [hp4];rfl)).2
   have ho9:Go.V.Own w9 0 219 AB p4 c4 (ES.take H):=by
    rw [hp4]
    refine Own.ofBlk (Nat.zero_le _) hA9 ?_ hcm8 (by omega) ?_
    ·simp only [List.length_append,List.length_take,List.length_drop,hvs,hcl8,hsz2];omega
    ·rw [htl,hsz2,List.append_assoc,List.take_append_of_le_length (by simp only [List.length_take,hcl8];omega),List.take_take,Nat.min_self]
     have:=Dc AB ES H (by omega)
     rw [hsz2] at this
     rw [← this,← htk8,List.take_take]
     congr 1;omega
   have hB9:=hB8.grown hg9 (by intro e0;injection e0 with e0;exact ho8.neB hB8 (by decide) (by rw [hp4,e0];rfl))
   have hrows9:Go.V.Own w9 0 217 Ay p7 c7 (A++b :: ([N2]++B)):=hrows8.kept hg9 (fun a ha e0=>ho8.neT hrows8 (by decide) a ha (by rw [hp4];exact e0))
   have ho59:Go.V.Own w9 w4.heap.size 219 AB p5 c5 (ES.drop H):=ho58.kept hg9 (fun a ha e0=>by
    have:=(ho58.ge a.block (by rw [ha];rfl)).1
    injection e0 with e0;omega)
   have hc9:Chg (Dj ix (bx pr) [b]) w w9:=hc8.step hg9 (fun k hk hlt=>by
    injection hk with hk
    rcases hnew4 g4 (by rw [hp4];rfl) with h1|h1
    ·omega
    ·exact .inr (.inr ⟨b,by simp,by rw [hgb,← hk,h1];rfl⟩))
   have hbi9:(A++b :: ([N2]++B))[A.length]?=some b:=by simp
   have hll:(A++b :: ([N2]++B)).length=bl.length+1:=by rw [hlen];simp;omega
   repeat' (first|refine R1 ?_|(refine Q1 ?_;first|(refine Q23 T.s217 (q:=H) (hj:=rfl) ?_)|(refine Q13 T.s214 (q:=A.length) (ho:=hrows9.sl.ok) ?_)|(refine Q2 (hu:=T.f216_0) ?_)|(refine Q3 (hu:=T.p214) ?_))|refine R2 ?_|fail)
   refine Q1 ?_
   refine Q42 (⟨p4,c4,ES.take H⟩:Al) T.z217 hrows9 hbi9 (off:=0) (q:=A.length) (hel:=by (show [Value.slice p4 (ES.take H).length c4]=[Value.slice p4 H c4];rw [htl])) ?_
   intro wA haA hzA
   have hcA:Chg (Dj ix (bx pr) [b]) w wA:=hc9.step haA.grown (fun k hk hlt=>by
    rcases BK.cases ha7.new with h1|h1
    ·exact .inr (.inl (by rw [← h1];exact hk))
    ·have:=h1 k hk;have:=hx6.size;have:=hc4.size;omega)
   have hBA:=hB9.grown haA.grown (hrows9.neB hB9 (by decide))
   have hoA:Go.V.Own wA 0 219 AB p4 c4 (ES.take H):=ho9.kept haA.grown (fun a ha e0=>hrows9.neT ho9 (by decide) a ha e0)
   have ho5A:Go.V.Own wA w4.heap.size 219 AB p5 c5 (ES.drop H):=ho59.kept haA.grown (fun a ha e0=>hrows9.neT ho59 (by decide) a ha e0)
   have hrowsA:=haA.own
   rw [set_mid] at hrowsA
   obtain ⟨N1,hN1⟩:∃N1:Al,N1=⟨p4,c4,ES.take H⟩:=⟨_,rfl⟩
   rw [← hN1] at hrowsA
   repeat' apply Zu
   refine Zk Tryz.results103 (vs:=[]) rfl ?_
   have hfA:(A++[N1,N2]++B).flatMap Al.es=(A.flatMap Al.es++C)++e :: (D++B.flatMap Al.es):=by
    have:ES.take H++ES.drop H=C++[e]++D:=by rw [List.take_append_drop,hES]
    simp only [List.flatMap_append,List.flatMap_cons,List.flatMap_nil,List.append_nil,hN1,hN2,this]
    simp
   have hlA:(A++b :: ([N2]++B)).length=(A++[N1,N2]++B).length:=by simp <;> omega
   have hnA:(((bl.flatMap Al.es).length:Int)+1)=(((A++[N1,N2]++B).flatMap Al.es).length:Int):=by rw [hfA,hfl];simp;omega
   replace hBA:Blk wA.heap ix 216 [.slice p7 (A++b :: ([N2]++B)).length c7,.int .i64 (((bl.flatMap Al.es).length:Int)+1)]:=hBA
   rw [hlA,hnA] at hBA
   have hI':Bz w ix F (bx pr) cb (A++[b]++B):=by rw [hbl] at hI;simpa using hI
   have hmb:∀b'∈[b],b'∈A++[b]++B:=fun b' hb'=>by simp at hb';simp [hb']
   have hESt:∀x,x∈ES→∃rs,AX wA F x.p x.c rs x.vs:=fun x hx=>by
    rcases hESm x hx with h1|h1
    ·subst h1;exact ⟨rs,hI'.keepF (M:=[b]) hmb hcA hch⟩
    ·exact hI'.keep (M:=[b]) hmb hcA b (by simp) x h1
   have hb2:∀b',b'∈[N1,N2]→b'=N1∨b'=N2:=fun b' hb'=>by simpa using hb'
   refine ⟨p7,c7,A++[N1,N2]++B,hI'.patch hcA hBA (by simpa using hrowsA) (fun b' hb'=>?_) ?_ (fun b' hb' k hk=>?_) (fun k hk=>by
    rcases BK.cases ha7.new with h1|h1
    ·exact .inr (by rw [← h1];exact hk)
    ·left;have:=h1 k hk;have:=hx6.size;have:=hc4.size;omega) (fun b' hb' x hx=>?_),hI'.chgT (M:=[b]) hmb hcA,_,_,hfl,hfA,hX,hY⟩
   ·rcases hb2 b' hb' with h1|h1
    ·rw [h1,hN1];exact ⟨hoA,by intro e0;simp only at e0;rw [e0] at htl;simp at htl;omega⟩
    ·rw [h1,hN2];exact ⟨ho5A.base (Nat.zero_le _),by intro e0;simp only at e0;rw [e0] at hdl;simp at hdl;omega⟩
   ·refine List.Pairwise.cons (fun b' hb'=>?_) (List.pairwise_singleton _ _)
    simp at hb'
    rw [hb',hN1,hN2]
    intro e0
    simp only at e0
    rw [hp4] at e0
    have:=(ho5A.ge g4 e0.symm).1
    omega
   ·rcases hb2 b' hb' with h1|h1
    ·rw [h1,hN1] at hk
     rcases hnew4 k hk with h2|h2
     ·exact .inl h2
     ·exact .inr ⟨b,by simp,by rw [hgb,h2];rfl⟩
    ·rw [h1,hN2] at hk
     have:=(ho5A.ge k hk).1
     have:=hc4.size
     left;omega
   ·rcases hb2 b' hb' with h1|h1
    ·rw [h1,hN1] at hx;exact hESt x (List.mem_of_mem_take hx)
    ·rw [h1,hN2] at hx;exact hESt x (List.mem_of_mem_drop hx)
  ·repeat' (first|refine R1 ?_|(refine Q1 ?_;first|(refine Q13 T.s214 (q:=A.length) (ho:=hrows4.sl.ok) ?_)|(refine Q2 (hu:=T.f216_0) ?_)|(refine Q3 (hu:=T.p214) ?_)|(refine Q6 (hu:=T.s217) ?_))|refine R2 ?_|(apply Za;exact rfl;all_goals (intro h;try (exfalso;omega)))|fail)
   all_goals try (exfalso;omega)
   refine Q1 ?_
   refine Q42 (⟨p4,c4,ES⟩:Al) T.z217 hrows4 hbi (off:=0) (q:=A.length) ?_
   intro w5 ha5 hz5
   have hc5:Chg (Dj ix (bx pr) [b]) w w5:=hc4.step ha5.grown (fun k hk _=>.inr (.inl hk))
   have hB5:=hB4.grown ha5.grown (by intro e;simp [blk] at e;exact hne3 e)
   have ho5:Go.V.Own w5 0 219 AB p4 c4 ES:=ho4.kept ha5.grown (fun a ha e=>(hrows4.neT ho4 (by decide)) a ha e)
   have hrows5:=ha5.own
   rw [hbl,set_mid] at hrows5
   repeat' apply Zu
   refine Zk Tryz.results103 (vs:=[]) rfl ?_
   have hl5:bl.length=(A++[(⟨p4,c4,ES⟩:Al)]++B).length:=by rw [hlen];simp;omega
   have hf5:(A++[(⟨p4,c4,ES⟩:Al)]++B).flatMap Al.es=(A.flatMap Al.es++C)++e :: (D++B.flatMap Al.es):=by simp [← hES]
   have hn5:(((bl.flatMap Al.es).length:Int)+1)=(((A++[(⟨p4,c4,ES⟩:Al)]++B).flatMap Al.es).length:Int):=by rw [hf5,hfl];simp;omega
   rw [hl5,hn5] at hB5
   have hI':Bz w ix F (bx pr) cb (A++[b]++B):=by rw [hbl] at hI;simpa using hI
   refine ⟨bx pr,cb,A++[⟨p4,c4,ES⟩]++B,hI'.patch hc5 hB5 (by simpa using hrows5) (fun b' hb'=>?_) (List.pairwise_singleton _ _) (fun b' hb' k hk=>?_) (fun k hk=>.inr hk) (fun b' hb' x hx=>?_),hI'.chgT (M:=[b]) (fun b' hb'=>by simp at hb';simp [hb']) hc5,_,_,hfl,hf5,hX,hY⟩
   ·simp at hb';subst hb';exact ⟨ho5,by intro e0;simp only at e0;rw [e0] at hESl;simp at hESl⟩
   ·simp at hb';subst hb'
    rcases hnew4 k hk with h1|h1
    ·exact .inl h1
    ·exact .inr ⟨b,by simp,by rw [hgb,h1];rfl⟩
   ·simp at hb';subst hb'
    rcases hESm x hx with h1|h1
    ·subst h1;exact ⟨rs,hI'.keepF (M:=[b]) (fun b' hb'=>by simp at hb';simp [hb']) hc5 hch⟩
    ·exact hI'.keep (M:=[b]) (fun b' hb'=>by simp at hb';simp [hb']) hc5 b (by simp) x h1
theorem Ps {w:World} {ix:Nat} {F:Nat→Prop} {pb:Option Addr} {cb:Nat} {bl A B:List Al} {b:Al} {C D:List Ent} {e:Ent} (hI:Bz w ix F pb cb bl) (hn:(bl.flatMap Al.es).length≤1000) (hbl:bl=A++b :: B) (hbe:b.es=C++e :: D) :
  Ctr Tryz.prog 104 [.pointer (some (adr (bx ix) 0)),.int .i64 (A.length:Int),.int .i64 (C.length:Int)] w (fun _ w'=>∃pb' cb' bl',Bz w' ix F pb' cb' bl'∧FP ix w w'∧bl'.flatMap Al.es=(A.flatMap Al.es++C)++(D++B.flatMap Al.es)):=by
 have hlix:=hI.box.lt
 have hbm:b∈bl:=by rw [hbl];simp
 have hbi:bl[A.length]?=some b:=by rw [hbl];simp
 obtain ⟨gb,hgb⟩:=hI.bk hbm
 obtain ⟨pr,hpr⟩:∃pr,pb=bx pr:=by
  obtain ⟨g0,cur0,e0,_⟩:=hI.rows.toBlk (hI.rows.some_of_pos (by rw [hbl];simp;omega))
  exact ⟨g0,e0⟩
 have hob:=(hI.blok b hbm).1
 have hne1:gb≠ix:=fun e=>by
  obtain ⟨cur,h1⟩:=hob.at (k:=gb) (by rw [hgb];rfl)
  have h2:=hI.box
  unfold Blk at h2
  rw [e,h2] at h1;injection h1 with h1;injection h1 with _ h1;exact absurd h1 (by decide)
 have hne2:gb≠pr:=fun e=>by
  obtain ⟨cur,h1⟩:=hob.at (k:=gb) (by rw [hgb];rfl)
  obtain ⟨cur',h2⟩:=hI.rows.at (k:=pr) (by rw [hpr];rfl)
  rw [e,h2] at h1;injection h1 with h1;injection h1 with _ h1;exact absurd h1 (by decide)
 have hne3:pr≠ix:=fun e=>by
  obtain ⟨cur,h1⟩:=hI.rows.at (k:=pr) (by rw [hpr];rfl)
  have h2:=hI.box
  unfold Blk at h2
  rw [e,h2] at h1;injection h1 with h1;injection h1 with _ h1;exact absurd h1 (by decide)
 obtain rfl:=hpr
 have hel:b.es.length≤(bl.flatMap Al.es).length:=by rw [hbl];simp;omega
 have hbl1:=Pt (fun b hb=>(hI.blok b hb).2)
 have hlen:bl.length=A.length+1+B.length:=by rw [hbl];simp;omega
 have hcl2:(b.es:List Ent).length=C.length+D.length+1:=by rw [hbe];simp;omega
 have hbox:=hI.box
 refine Ac Tryz.func104 Tryz.ntmps104 rfl rfl rfl ?_
 repeat' (first|refine R1 ?_|(refine Q1 ?_;first|(refine Q2 (hu:=T.f216_1) ?_)|(refine Q3 (hu:=T.p3) ?_))|refine R2 ?_|fail)
 refine Q1 ?_;refine Q5 T.z3 hbox ?_;intro w2 hB2 hg2 hs2
 replace hB2:Blk w2.heap ix 216 [.slice (bx pr) bl.length cb,.int .i64 (((bl.flatMap Al.es).length:Int) - 1)]:=hB2
 have hc2:Chg (Dj ix (bx pr) [b]) w w2:=Chg.grown hg2 (fun k hk=>.inl (by injection hk with hk;exact hk.symm))
 have hrows2:Go.V.Own w2 0 217 Ay (bx pr) cb bl:=hI.rows.kept hg2 (fun a ha e=>by injection ha with ha;rw [← ha] at e;injection e with e;exact hne3 e.symm)
 have hob2:Go.V.Own w2 0 219 AB b.p b.c b.es:=hob.kept hg2 (fun a ha e=>by rw [hgb] at ha;injection ha with ha;rw [← ha] at e;injection e with e;exact hne1 e.symm)
 have hrs:=hrows2.sl
 have hbb:=hrs.bound
 repeat' (first|refine R1 ?_|(refine Q1 ?_;first|(refine Q13 T.s214 (q:=A.length) (ho:=hrs.ok) ?_)|(refine Q9 (q:=A.length) (e:=Ay) (hu:=T.p217) (hs:=hrs) (hq:=hbi) ?_)|(refine Q2 (hu:=T.f216_0) ?_)|(refine Q3 (hu:=T.p214) ?_))|refine R2 ?_|fail)
 refine Q1 ?_;refine Q4 (hc:=Pe (i:=C.length) hob2 (by omega) (by omega)) ?_;rintro _ w4 ⟨rfl,ho4,hg4⟩;refine Kc ?_
 have hce:b.es.take C.length++b.es.drop (C.length+1)=C++D:=by rw [hbe,List.take_left' rfl,show C++e :: D=(C++[e])++D by simp,List.drop_left' (by simp)]
 rw [hce] at ho4 ⊢
 rw [hgb] at hg4
 have hgr4:w2.grownBy w4 (some gb):=hg4
 have hc4:Chg (Dj ix (bx pr) [b]) w w4:=hc2.step hgr4 (fun k hk _=>.inr (.inr ⟨b,by simp,by rw [hgb];exact hk⟩))
 have hB4:=hB2.grown hgr4 (by intro e0;injection e0 with e0;exact hne1 e0)
 have hrows4:Go.V.Own w4 0 217 Ay (bx pr) cb bl:=hrows2.kept hgr4 (fun a ha e=>by injection ha with ha;rw [← ha] at e;injection e with e;exact hne2 e)
 have hfl:(bl.flatMap Al.es)=A.flatMap Al.es++C++e :: (D++B.flatMap Al.es):=by rw [hbl];simp [hbe]
 have hI':Bz w ix F (bx pr) cb (A++[b]++B):=by rw [hbl] at hI;simpa using hI
 have hmb:∀b'∈[b],b'∈A++[b]++B:=fun b' hb'=>by simp at hb';simp [hb']
 repeat' (first|refine R1 ?_|(refine Q1 ?_;first|(refine Q13 T.s214 (q:=A.length) (ho:=hrows4.sl.ok) ?_)|(refine Q2 (hu:=T.f216_0) ?_)|(refine Q3 (hu:=T.p214) ?_))|refine R2 ?_|fail)
 refine Q1 ?_
 obtain ⟨N1,hN1⟩:∃N1:Al,N1=⟨b.p,b.c,C++D⟩:=⟨_,rfl⟩
 refine Q42 N1 T.z217 hrows4 hbi (off:=0) (q:=A.length) (hel:=by (rw [hN1];exact rfl)) ?_
 intro w5 ha5 hz5
 have hc5:Chg (Dj ix (bx pr) [b]) w w5:=hc4.step ha5.grown (fun k hk _=>.inr (.inl hk))
 have hB5:=hB4.grown ha5.grown (by intro e0;injection e0 with e0;exact hne3 e0)
 have ho5:Go.V.Own w5 0 219 AB b.p b.c (C++D):=ho4.kept ha5.grown (fun a ha e=>(hrows4.neT ho4 (by decide)) a ha e)
 have hrows5:=ha5.own
 rw [hbl,set_mid] at hrows5
 have hent:∀w',Chg (Dj ix (bx pr) [b]) w w'→∀x∈C++D,∃rs,AX w' F x.p x.c rs x.vs:=fun w' hc x hx=>hI'.keep (M:=[b]) hmb hc b (by simp) x (by rw [hbe];simp at hx ⊢;rcases hx with hx|hx <;> simp [hx])
 by_cases hz:(C++D).length=0
 ·have hcd:C++D=[]:=List.eq_nil_of_length_eq_zero hz
  have hll:(A++N1 :: B).length=bl.length:=by rw [hlen];simp;omega
  rw [← hll] at hB5
  repeat' (first|refine R1 ?_|(refine Q1 ?_;first|(refine Q2 (hu:=T.f216_0) ?_)|(refine Q3 (hu:=T.p214) ?_)|(refine Q6 (hu:=T.s217) ?_))|refine R2 ?_|(apply Za;exact rfl;all_goals (intro h;try (exfalso;omega)))|fail)
  all_goals try (exfalso;omega)
  refine Q1 ?_;refine Q4 (hc:=Pf (i:=A.length) hrows5 (by rw [hll];omega) (by omega)) ?_;rintro _ w6 ⟨rfl,ho6,hg6⟩;refine Kc ?_
  have hre:(A++N1 :: B).take A.length++(A++N1 :: B).drop (A.length+1)=A++[]++B:=by rw [List.take_left' rfl,show A++N1 :: B=(A++[N1])++B by simp,List.drop_left' (by simp)];simp
  rw [hre] at ho6 ⊢
  have hgr6:w5.grownBy w6 (some pr):=hg6
  have hB6:=hB5.grown hgr6 (by intro e0;injection e0 with e0;exact hne3 e0)
  have hc6:Chg (Dj ix (bx pr) [b]) w w6:=hc5.step hgr6 (fun k hk _=>.inr (.inl hk))
  repeat' (refine Q1 ?_;first|refine Q21 ?_|(refine Q2 (hu:=T.f216_0) ?_))
  refine Q1 ?_;refine Q5 T.z214 hB6 ?_;intro w7 hB7 hg7 hs7
  have hc7:Chg (Dj ix (bx pr) [b]) w w7:=hc6.step hg7 (fun k hk _=>.inl (by injection hk with hk;exact hk.symm))
  have ho7:Go.V.Own w7 0 217 Ay (bx pr) cb (A++[]++B):=ho6.kept hg7 (fun a ha e=>by injection ha with ha;rw [← ha] at e;injection e with e;exact hne3 e.symm)
  repeat' apply Zu
  refine Zk Tryz.results104 (vs:=[]) rfl ?_
  have hf7:(A++[]++B:List Al).flatMap Al.es=(A.flatMap Al.es++C)++(D++B.flatMap Al.es):=by
   have h1:C=[]:=by cases C with|nil=>rfl|cons _ _=>simp at hcd
   have h2:D=[]:=by cases D with|nil=>rfl|cons _ _=>simp [h1] at hcd
   simp [h1,h2]
  have hn7:(((bl.flatMap Al.es).length:Int) - 1)=(((A++[]++B:List Al).flatMap Al.es).length:Int):=by rw [hf7,hfl];simp;omega
  replace hB7:Blk w7.heap ix 216 [.slice (bx pr) (A++[]++B:List Al).length cb,.int .i64 (((bl.flatMap Al.es).length:Int) - 1)]:=hB7
  rw [hn7] at hB7
  exact ⟨bx pr,cb,A++[]++B,hI'.patch hc7 hB7 ho7 (fun b' hb'=>by cases hb') List.Pairwise.nil (fun b' hb'=>by cases hb') (fun k hk=>.inr hk) (fun b' hb'=>by cases hb'),hI'.chgT (M:=[b]) hmb hc7,hf7⟩
 ·repeat' (first|refine R1 ?_|(refine Q1 ?_;(refine Q6 (hu:=T.s217) ?_))|refine R2 ?_|(apply Za;exact rfl;all_goals (intro h;try (exfalso;omega)))|fail)
  all_goals try (exfalso;omega)
  refine Zk Tryz.results104 (vs:=[]) rfl ?_
  have hl5:bl.length=(A++[N1]++B).length:=by rw [hlen];simp;omega
  have hf5:(A++[N1]++B).flatMap Al.es=(A.flatMap Al.es++C)++(D++B.flatMap Al.es):=by simp [hN1]
  have hn5:(((bl.flatMap Al.es).length:Int) - 1)=(((A++[N1]++B).flatMap Al.es).length:Int):=by rw [hf5,hfl];simp;omega
  rw [hl5,hn5] at hB5
  refine ⟨bx pr,cb,A++[N1]++B,hI'.patch hc5 hB5 (by simpa using hrows5) (fun b' hb'=>?_) (List.pairwise_singleton _ _) (fun b' hb' k hk=>?_) (fun k hk=>.inr hk) (fun b' hb' x hx=>?_),hI'.chgT (M:=[b]) hmb hc5,hf5⟩
  ·simp at hb';rw [hb',hN1];exact ⟨ho5,fun e0=>hz (by simp only at e0;rw [e0];rfl)⟩
  ·simp at hb';rw [hb',hN1] at hk;exact .inr ⟨b,by simp,hk⟩
  ·simp at hb';rw [hb',hN1] at hx;exact hent w5 hc5 x hx
theorem VM {w:World} {ix:Nat} {F:Nat→Prop} {pb:Option Addr} {cb:Nat} {bl:List Al} (hI:Bz w ix F pb cb bl) :
  Ctr Tryz.prog 243 [.pointer (some (adr (bx ix) 0))] w (fun v w'=>v=.int .i64 ((bl.flatMap Al.es).length:Int)∧Ext w w'):=by
 have hbox:=hI.box
 refine Ac Tryz.func243 Tryz.ntmps243 rfl rfl rfl ?_
 repeat' (first|refine R1 ?_|(refine Q1 ?_;first|(refine Q2 (hu:=T.f216_1) ?_)|(refine Q3 (hu:=T.p3) ?_))|refine R2 ?_|fail)
 refine Kr Tryz.results243 ?_
 exact ⟨rfl,Kz⟩
theorem Xq (w:World):(Instr.build 216 [].toArray).run Tryz.prog w=.ok (.agg #[.slice none 0 0,.int .i64 0]) w:=by kernel_rfl
theorem VN {w:World}:Ctr Tryz.prog 116 [] w (fun v w'=>∃ix,v=.pointer (some (adr (bx ix) 0))∧ix=w.heap.size∧Bz w' ix (fun _=>False) none 0 []∧Ext w w'):=by
 refine Ac Tryz.func116 Tryz.ntmps116 rfl rfl rfl ?_
 repeat' (first|refine R1 ?_|(refine Q1 ?_;(apply Zi;exact rfl;exact Xq;exact rfl))|fail)
 refine Q1 ?_;refine Q8 ?_;intro a1 w1 ha1 hA1 hx1 hs1
 replace hA1:Blk w1.heap a1 216 [.slice none 0 0,.int .i64 0]:=hA1
 repeat' (first|refine R1 ?_|refine R2 ?_|fail)
 refine Kr Tryz.results116 ?_
 exact ⟨a1,rfl,ha1,⟨hA1,Own.nil _ _ _ _,(fun b hb=>by cases hb),List.Pairwise.nil,(fun b hb=>by cases hb),(fun k hk=>False.elim hk),(fun k hk=>by rcases hk with hk|⟨b,hb,_⟩ <;> (first|(cases hk;done)|(cases hb;done)))⟩,hx1⟩
theorem Pp {w:World} {ix:Nat} {F:Nat→Prop} {pb:Option Addr} {cb:Nat} {bl:List Al} {key:ByteArray} (hI:Bz w ix F pb cb bl) (hS:Ce (bl.flatMap Al.es)) (hn:(bl.flatMap Al.es).length≤1000) (hk:∀e∈bl.flatMap Al.es,e.key≠key) :
  Ctr Tryz.prog 65 [.pointer (some (adr (bx ix) 0)),.string key] w (fun v w'=>v=.slice none 0 0∧Ext w w'):=by
 refine Ac Tryz.func65 Tryz.ntmps65 rfl rfl rfl ?_
 repeat' (refine R1 ?_)
 refine Q1 ?_;refine Q4 (hc:=Gr (key:=key) hI hS hn) ?_;rintro _ w1 ⟨i,j,ok,rfl,hf,hx1⟩;refine Kc ?_
 obtain rfl:ok=false:=by
  rcases hf with ⟨_,_,h,_⟩|⟨A,b,B,C,e0,D,h1,h2,h3,h4,h5,h6,h7⟩
  ·exact h
  ·rw [h5];exact decide_eq_false (hk e0 (by rw [h1];simp [h2]))
 repeat' (first|refine R1 ?_|refine R2 ?_|fail)
 refine Kr Tryz.results65 ?_
 exact ⟨rfl,hx1⟩
theorem NM {w:World} {ix:Nat} {F:Nat→Prop} {pb:Option Addr} {cb:Nat} {bl:List Al} {e:Ent} (hI:Bz w ix F pb cb bl) (hS:Ce (bl.flatMap Al.es)) (hn:(bl.flatMap Al.es).length≤1000) (he:e∈bl.flatMap Al.es) (hs:Fu e.vs) :
  Ctr Tryz.prog 65 [.pointer (some (adr (bx ix) 0)),.string e.key] w (fun v w'=>∃p' c' rs',v=.slice p' e.vs.length c'∧AX w' (fun k=>w.heap.size≤k∧NoB w' k) p' c' rs' e.vs∧Ext w w'):=by
 refine Ac Tryz.func65 Tryz.ntmps65 rfl rfl rfl ?_
 repeat' (refine R1 ?_)
 refine Q1 ?_;refine Q4 (hc:=Gr (key:=e.key) hI hS hn) ?_;rintro _ w1 ⟨i,j,ok,rfl,hf,hx1⟩;refine Kc ?_
 obtain ⟨A,b,B,C,D,h1,h2,h3,h4,h5⟩:∃A b B C D,bl=A++b :: B∧b.es=C++e :: D∧i=A.length∧j=C.length∧ok=true:=by
  rcases hf with ⟨_,_,h,h0⟩|⟨A,b,B,C,e0,D,h1,h2,h3,h4,h5,h6,h7⟩
  ·have:=h0 e he;rw [CY] at this;cases this
  ·have hfl:bl.flatMap Al.es=(A.flatMap Al.es++C)++e0 :: (D++B.flatMap Al.es):=by rw [h1];simp [h2]
   have hee:e=e0:=by
    rw [hfl] at he hS
    rcases List.mem_append.1 he with h|h
    ·have:=h6 e h;rw [CY] at this;cases this
    ·rcases List.mem_cons.1 h with h|h
     ·exact h
     ·unfold Ce at hS
      have h8:=(List.pairwise_cons.1 (List.pairwise_append.1 hS).2.1).1 e h
      rw [h8] at h7;cases h7
   subst hee
   exact ⟨A,b,B,C,D,h1,h2,h3,h4,by rw [h5];simp⟩
 subst h3 h4 h5
 have hI1:=hI.ext hx1
 have hbm:b∈bl:=by rw [h1];simp
 have hbi:bl[A.length]?=some b:=by rw [h1];simp
 have hei:b.es[C.length]?=some e:=by rw [h2];simp
 have hbox:=hI1.box
 have hrs:=hI1.rows.sl
 have hes:=(hI1.blok b hbm).1.sl
 have hbb:=hrs.bound
 have hbb2:=hes.bound
 have hlen:bl.length=A.length+1+B.length:=by rw [h1];simp;omega
 have hlen2:b.es.length=C.length+1+D.length:=by rw [h2];simp;omega
 obtain ⟨rs,hr⟩:=hI1.ent b hbm e (by rw [h2];simp)
 repeat' (first|refine R1 ?_|(refine Q1 ?_;first|(refine Q13 T.s214 (q:=A.length) (ho:=hrs.ok) ?_)|(refine Q9 (q:=A.length) (e:=Ay) (hu:=T.p217) (hs:=hrs) (hq:=hbi) ?_)|(refine Q13 T.s217 (q:=C.length) (ho:=hes.ok) ?_)|(refine Q44 (q:=C.length) (e:=AB) (hu:=T.p157) (hs:=hes) (hq:=hei) ?_)|(refine Q2 (hu:=by (first|exact T.f216_0|exact T.f219_1)) ?_)|(refine Q3 (hu:=T.p214) ?_))|refine R2 ?_|fail)
 refine Q1 ?_;refine Q4 (hc:=Hg hr.at hs rfl) ?_;rintro _ w2 ⟨p2,c2,rs2,rfl,hc2,hx2⟩;refine Kc ?_
 repeat' (first|refine R1 ?_|refine R2 ?_|fail)
 refine Kr Tryz.results65 ?_
 exact ⟨p2,c2,rs2,rfl,hc2.mono (fun k hk=>⟨Nat.le_trans hx1.size hk.1,hk.2⟩),hx1.trans hx2⟩
end Go.Proofs.YtkcolpfanmdmiaaGreatDoor
namespace Go.V
abbrev KV:=ByteArray × List Ver
def kv (e:Ent):KV:=(e.key,e.vs)
def cont (bl:List Al):List KV:=(bl.flatMap Al.es).map kv
def BO (L:List KV):Prop:=L.Pairwise (fun a b=>blt a.1 b.1=true)
theorem Eg {es:List Ent}:Ce es ↔ BO (es.map kv):=by
 unfold Ce BO;rw [List.pairwise_map];rfl
def Lb (L:List KV) (key:ByteArray) (vs:List Ver):List KV:=L.filter (fun x=>blt x.1 key)++(if vs=[] then [] else [(key,vs)])++L.filter (fun x=>blt key x.1)
theorem JU {α:Type} {p:α→Bool} {l:List α} (h:∀x∈l,p x=true):l.filter p=l:=List.filter_eq_self.2 h
theorem Hf {α:Type} {p:α→Bool} {l:List α} (h:∀x∈l,p x=false):l.filter p=[]:=List.filter_eq_nil_iff.2 (fun x hx=>by rw [h x hx];decide)
theorem GI {X Y:List KV} {key:ByteArray} {vs:List Ver} (hX:∀x∈X,blt x.1 key=true) (hY:∀y∈Y,blt key y.1=true):Lb (X++Y) key vs=X++(if vs=[] then [] else [(key,vs)])++Y:=by
 unfold Lb
 rw [List.filter_append,List.filter_append,JU hX,Hf (l:=Y) (fun y hy=>Ll (hY y hy)),Hf (l:=X) (fun x hx=>Ll (hX x hx)),JU hY]
 simp
theorem Oq {X Y:List KV} {key:ByteArray} {vs v0:List Ver} (hX:∀x∈X,blt x.1 key=true) (hY:∀y∈Y,blt key y.1=true):Lb (X++(key,v0) :: Y) key vs=X++(if vs=[] then [] else [(key,vs)])++Y:=by
 have:=GI (vs:=vs) hX hY
 unfold Lb at *
 rw [List.filter_append,List.filter_append] at this ⊢
 rw [List.filter_cons_of_neg (by simp [CY]),List.filter_cons_of_neg (by simp [CY])]
 exact this
theorem Ot {L:List KV} {key:ByteArray} {vs:List Ver} (h:BO L):BO (Lb L key vs):=by
 unfold Lb BO at *
 have h1:(L.filter (fun x=>blt x.1 key)).Pairwise (fun a b=>blt a.1 b.1=true):=h.sublist List.filter_sublist
 have h2:(L.filter (fun x=>blt key x.1)).Pairwise (fun a b=>blt a.1 b.1=true):=h.sublist List.filter_sublist
 rw [List.pairwise_append,List.pairwise_append]
 refine ⟨⟨h1,?_,?_⟩,h2,?_⟩
 ·split
  ·exact List.Pairwise.nil
  ·exact List.pairwise_singleton _ _
 ·intro a ha b hb
  split at hb
  ·simp at hb
  ·simp at hb;subst hb;exact (List.mem_filter.1 ha).2
 ·intro a ha b hb
  have hb':=(List.mem_filter.1 hb).2
  rcases List.mem_append.1 ha with ha|ha
  ·exact Eo (List.mem_filter.1 ha).2 hb'
  ·split at ha
   ·simp at ha
   ·simp at ha;subst ha;exact hb'
theorem Iq {Y:List KV} {key:ByteArray} (hs:BO Y) (h:∀y,Y.head?=some y→blt key y.1=true):∀y∈Y,blt key y.1=true:=by
 cases Y with
 | nil=>simp
 | cons a Y =>
  have h0:=h a rfl
  intro y hy
  rcases List.mem_cons.1 hy with rfl|hy
  ·exact h0
  ·exact Eo h0 ((List.pairwise_cons.1 hs).1 y hy)
theorem BO.right {X Y:List KV} (h:BO (X++Y)):BO Y:=(List.pairwise_append.1 h).2.1
end Go.V
namespace Go.Proofs.YtkcolpfanmdmiaaGreatDoor
open Go.V
attribute [local irreducible] Blk Own hcell Ao Ab PlainT Ak Ad Ap Aa Ag EqT Au
theorem Bz.monoF {w:World} {ix:Nat} {F F':Nat→Prop} {pb:Option Addr} {cb:Nat} {bl:List Al} (h:Bz w ix F pb cb bl) (hF:∀k,F k→F' k) (ht:∀k,F' k→NoB w k):Bz w ix F' pb cb bl :=
 ⟨h.box,h.rows,h.blok,h.apart,fun b hb e he=>by obtain ⟨rs,hr⟩:=h.ent b hb e he;exact ⟨rs,hr.mono hF⟩,ht,h.low⟩
theorem Vq (k:ByteArray) (p:Option Addr) (n c:Nat) (w:World):(Instr.build 219 [(0,Value.string k),(1,Value.slice p n c)].toArray).run Tryz.prog w=.ok (.agg #[.string k,.slice p n c]) w:=by kernel_rfl
theorem VO {w:World} {ix:Nat} {F:Nat→Prop} {pb:Option Addr} {cb:Nat} {bl:List Al} {key:ByteArray} {p:Option Addr} {c n:Nat} {rs:List Aw} {vs:List Ver} (hI:Bz w ix F pb cb bl) (hS:BO (cont bl)) (hn:(cont bl).length≤900) (hC:Bb w.heap p c rs vs) (hsm:Fu vs) (hnl:vs.length=n) :
  Ctr Tryz.prog 67 [.pointer (some (adr (bx ix) 0)),.string key,.slice p n c] w (fun _ w'=>∃F' pb' cb' bl',Bz w' ix F' pb' cb' bl'∧cont bl'=Lb (cont bl) key vs∧(∀k,F' k→F k∨w.heap.size≤k)∧FP ix w w'):=by
 have hSE:Ce (bl.flatMap Al.es):=Eg.2 hS
 have hnE:(bl.flatMap Al.es).length≤1000:=by unfold cont at hn;rw [List.length_map] at hn;omega
 subst hnl
 refine Ac Tryz.func67 Tryz.ntmps67 rfl rfl rfl ?_
 repeat' (refine R1 ?_)
 refine Q1 ?_;refine Q4 (hc:=Gr (key:=key) hI hSE hnE) ?_;rintro _ w1 ⟨i,j,ok,rfl,hf,hx1⟩;refine Kc ?_
 have hI1:=hI.ext hx1
 have z1:=hx1.size
 have hC1:=hC.ext hx1
 have hc1:FP ix w w1:=Chg.ext hx1
 by_cases hv0:vs.length=0
 ·obtain rfl:vs=[]:=List.eq_nil_of_length_eq_zero hv0
  cases ok with
  | false =>
   repeat' (first|refine R1 ?_|(refine Q1 ?_;(refine Q6 (hu:=T.s157) ?_))|refine R2 ?_|fail)
   refine Zk Tryz.results67 (vs:=[]) rfl ?_
   refine ⟨F,pb,cb,bl,hI1,?_,fun k hk=>.inl hk,hc1⟩
   rcases hf with ⟨_,_,_,h0⟩|⟨A,b,B,C,e0,D,h1,h2,h3,h4,h5,h6,h7⟩
   ·have:=GI (X:=cont bl) (Y:=[]) (key:=key) (vs:=[]) (fun x hx=>by
     unfold cont at hx;obtain ⟨e,he,rfl⟩:=List.mem_map.1 hx;exact h0 e he) (fun y hy=>by cases hy)
    simpa using this.symm
   ·have hfl:cont bl=(A.flatMap Al.es++C).map kv++(e0 :: (D++B.flatMap Al.es)).map kv:=by unfold cont;rw [h1];simp [h2]
    have hg:=Iq (key:=key) (by rw [hfl] at hS;exact hS.right) (fun y hy=>by
     simp at hy;subst hy
     rcases Lm key e0.key with h|h|h
     ·exact h
     ·rw [h] at h5;simp at h5
     ·rw [h] at h7;cases h7)
    have:=GI (X:=(A.flatMap Al.es++C).map kv) (key:=key) (vs:=[]) (fun x hx=>by obtain ⟨e,he,rfl⟩:=List.mem_map.1 hx;exact h6 e he) hg
    rw [← hfl] at this
    rw [this,if_pos rfl,List.append_nil,hfl]
  | true =>
   obtain ⟨A,b,B,C,e,D,h1,h2,rfl,rfl,h5,h6⟩:∃A b B C e D,bl=A++b :: B∧b.es=C++e :: D∧i=A.length∧j=C.length∧e.key=key∧(∀x∈A.flatMap Al.es++C,blt x.key key=true):=by
    rcases hf with ⟨_,_,h,_⟩|⟨A,b,B,C,e0,D,h1,h2,h3,h4,h5,h6,h7⟩
    ·cases h
    ·exact ⟨A,b,B,C,e0,D,h1,h2,h3,h4,by simpa using h5.symm,h6⟩
   repeat' (first|refine R1 ?_|(refine Q1 ?_;(refine Q6 (hu:=T.s157) ?_))|refine R2 ?_|fail)
   refine Q1 ?_;refine Q4 (hc:=Ps hI1 hnE h1 h2) ?_;rintro v2 w2 ⟨pb2,cb2,bl2,hI2,hc2,hf2⟩;refine Kc ?_
   repeat' (first|refine R1 ?_|refine R2 ?_|fail)
   refine Zk Tryz.results67 (vs:=[]) rfl ?_
   refine ⟨F,pb2,cb2,bl2,hI2,?_,fun k hk=>.inl hk,hc1.trans hc2⟩
   have hfl:cont bl=(A.flatMap Al.es++C).map kv++(key,e.vs) :: (D++B.flatMap Al.es).map kv:=by unfold cont;rw [h1,← h5];simp [h2,kv]
   have hg:∀y∈(D++B.flatMap Al.es).map kv,blt key y.1=true:=by
    rw [hfl] at hS
    exact (List.pairwise_cons.1 hS.right).1
   rw [hfl,Oq (fun x hx=>by obtain ⟨e,he,rfl⟩:=List.mem_map.1 hx;exact h6 e he) hg]
   unfold cont;rw [hf2];simp
 ·have hvne:vs≠[]:=fun e=>hv0 (by rw [e];rfl)
  cases ok with
  | false =>
   repeat' (first|refine R1 ?_|(refine Q1 ?_;(refine Q6 (hu:=T.s157) ?_))|refine R2 ?_|(apply Za;exact rfl;all_goals (intro h;try (exfalso;omega)))|((fail_if_success (refine Q1 ?_));apply Zb;exact rfl;exact rfl;all_goals (intro h;try (exfalso;omega)))|fail)
   all_goals try (exfalso;omega)
   refine Q1 ?_;refine Q4 (hc:=Hg hC1 hsm rfl) ?_;rintro _ w2 ⟨p2,c2,rs2,rfl,hch,hx2⟩;refine Kc ?_
   have hI2:=(hI1.ext hx2).monoF (F':=fun k=>F k∨(w1.heap.size≤k∧NoB w2 k)) (fun k hk=>.inl hk) (fun k hk=>by
    rcases hk with hk|hk
    ·exact (hI1.ext hx2).typ k hk
    ·exact hk.2)
   obtain ⟨e,he⟩:∃e:Ent,e=⟨key,p2,c2,vs⟩:=⟨_,rfl⟩
   have hek:e.key=key:=by rw [he]
   have hev:e.vs=vs:=by rw [he]
   have hbld:∀w,(Instr.build 219 [(0,Value.string key),(1,Value.slice p2 vs.length c2)].toArray).run Tryz.prog w=.ok (.agg (AB.enc e).toArray) w:=by
    intro w;rw [he];exact Vq key p2 vs.length c2 w
   repeat' (refine Q1 ?_;(apply Zi;exact rfl;exact hbld;exact rfl))
   refine Q1 ?_;refine Q4 (hc:=Pq (e:=e) (rs:=rs2) hI2 hnE (by rw [hek];exact hf) (by rw [he];exact hch.mono (fun k hk=>.inr hk))) ?_;rintro v3 w3 ⟨pb3,cb3,bl3,hI3,hc3,X,Y,hX,hY,hx,hy⟩;refine Kc ?_
   repeat' (first|refine R1 ?_|refine R2 ?_|fail)
   refine Zk Tryz.results67 (vs:=[]) rfl ?_
   refine ⟨_,pb3,cb3,bl3,hI3,?_,fun k hk=>?_,(hc1.trans (Chg.ext hx2)).trans hc3⟩
   ·rw [hek] at hx hy
    have hfl:cont bl=X.map kv++Y.map kv:=by unfold cont;rw [hX];simp
    have hg:=Iq (key:=key) (by rw [hfl] at hS;exact hS.right) (fun y hy'=>by
     rw [List.head?_map] at hy'
     obtain ⟨y',h1,h2⟩:=Option.map_eq_some_iff.1 hy'
     obtain ⟨h3,h4⟩:=hy y' h1
     rw [← h2]
     rcases Lm key y'.key with h|h|h
     ·exact h
     ·exact absurd h.symm h4
     ·rw [h] at h3;cases h3)
    rw [hfl,GI (fun x hx'=>by obtain ⟨x',h1,rfl⟩:=List.mem_map.1 hx';exact hx x' h1) hg,if_neg hvne]
    unfold cont;rw [hY];simp [kv,hek,hev]
   ·rcases hk with hk|hk
    ·exact .inl hk
    ·exact .inr (by omega)
  | true =>
   obtain ⟨A,b,B,C,e,D,h1,h2,rfl,rfl,h5,h6⟩:∃A b B C e D,bl=A++b :: B∧b.es=C++e :: D∧i=A.length∧j=C.length∧e.key=key∧(∀x∈A.flatMap Al.es++C,blt x.key key=true):=by
    rcases hf with ⟨_,_,h,_⟩|⟨A,b,B,C,e0,D,h1,h2,h3,h4,h5,h6,h7⟩
    ·cases h
    ·exact ⟨A,b,B,C,e0,D,h1,h2,h3,h4,by simpa using h5.symm,h6⟩
   have hbm:b∈bl:=by rw [h1];simp
   have hbi:bl[A.length]?=some b:=by rw [h1];simp
   have hei:b.es[C.length]?=some e:=by rw [h2];simp
   have hbox:=hI1.box
   have hrs:=hI1.rows.sl
   have hes:=(hI1.blok b hbm).1.sl
   have hbb:=hrs.bound
   have hbb2:=hes.bound
   have hlen:bl.length=A.length+1+B.length:=by rw [h1];simp;omega
   have hlen2:b.es.length=C.length+1+D.length:=by rw [h2];simp;omega
   repeat' (first|refine R1 ?_|(refine Q1 ?_;first|(refine Q13 T.s214 (q:=A.length) (ho:=hrs.ok) ?_)|(refine Q9 (q:=A.length) (e:=Ay) (hu:=T.p217) (hs:=hrs.ext (Ext.drew Ext.rfl')) (hq:=hbi) ?_)|(refine Q6 (hu:=T.s157) ?_)|(refine Q2 (hu:=T.f216_0) ?_)|(refine Q3 (hu:=T.p214) ?_))|refine R2 ?_|((fail_if_success (refine Q1 ?_));apply Zb;exact rfl;exact rfl;all_goals (intro h;try (exfalso;omega)))|refine Zf 1 [] [0,1,2,3,4,5,6,7,8,9,10,11,12] mixed (by decide +kernel) ?_|fail)
   all_goals try (exfalso;omega)
   refine Q1 ?_;refine Q4 (hc:=Hg (hC1.ext (Ext.drew Ext.rfl')) hsm rfl) ?_;rintro _ w2 ⟨p2,c2,rs2,rfl,hch,hx2⟩;refine Kc ?_
   replace hx2:Ext w1 w2:=(Ext.drew Ext.rfl').trans hx2
   replace hch:AX w2 (fun k=>w1.heap.size≤k∧NoB w2 k) p2 c2 rs2 vs:=hch
   have hI2:=(hI1.ext hx2).monoF (F':=fun k=>F k∨(w1.heap.size≤k∧NoB w2 k)) (fun k hk=>.inl hk) (fun k hk=>by
    rcases hk with hk|hk
    ·exact (hI1.ext hx2).typ k hk
    ·exact hk.2)
   have hob2:=(hI2.blok b hbm).1
   repeat' (refine Q1 ?_;first|(refine Q13 T.s217 (q:=C.length) (ho:=hes.ok) ?_)|(refine Q2 (hu:=T.f219_1) ?_))
   refine Q1 ?_
   refine Q42 (⟨e.key,p2,c2,vs⟩:Ent) T.z157 hob2 hei (off:=1) (q:=C.length) ?_
   intro w3 ha3 hz3
   repeat' (first|refine R1 ?_|refine R2 ?_|fail)
   refine Zk Tryz.results67 (vs:=[]) rfl ?_
   have ho3:=ha3.own
   rw [h2,set_mid] at ho3
   obtain ⟨gb,hgb⟩:=hI2.bk hbm
   obtain ⟨N1,hN1⟩:∃N1:Al,N1=⟨b.p,b.c,C++(⟨e.key,p2,c2,vs⟩:Ent) :: D⟩:=⟨_,rfl⟩
   have hI':Bz w2 ix (fun k=>F k∨(w1.heap.size≤k∧NoB w2 k)) pb cb (A++[b]++B):=by rw [h1] at hI2;simpa using hI2
   have hmb:∀b'∈[b],b'∈A++[b]++B:=fun b' hb'=>by simp at hb';simp [hb']
   have hc3:Chg (Dj ix pb [b]) w2 w3:=Chg.grown ha3.grown (fun k hk=>.inr (.inr ⟨b,by simp,hk⟩))
   have hB3:=hI2.box.grown ha3.grown (hob2.neB hI2.box (by decide))
   have hr3:Go.V.Own w3 0 217 Ay pb cb bl:=hI2.rows.kept ha3.grown (fun a ha e0=>hob2.neT hI2.rows (by decide) a ha e0)
   have hcl:hcell w3.heap (adr pb (A.length * 1+0))=some (.slice b.p b.es.length b.c):=hr3.sl.cell A.length b hbi 0 _ rfl
   have hre:Go.V.Own w3 0 217 Ay pb cb (A++[N1]++B):=by
    have hen:∀xs ys:List Al,xs.map Ay.enc=ys.map Ay.enc→xs.flatMap Ay.enc=ys.flatMap Ay.enc:=fun xs ys h=>by rw [List.flatMap_def,List.flatMap_def,h]
    have hel:Ay.enc N1=Ay.enc b:=by rw [hN1];show [Value.slice b.p (C++(⟨e.key,p2,c2,vs⟩:Ent) :: D).length b.c]=[Value.slice b.p b.es.length b.c];rw [h2];simp
    have h5':(A++[N1]++B).flatMap Ay.enc=bl.flatMap Ay.enc:=by rw [h1];simp [hel]
    have h6':(A++[N1]++B).length=bl.length:=by rw [hlen];simp;omega
    unfold Go.V.Own at hr3 ⊢
    rw [h5',h6'];exact hr3
   have hf3:(A++[N1]++B).flatMap Al.es=(A.flatMap Al.es++C)++(⟨e.key,p2,c2,vs⟩:Ent) :: (D++B.flatMap Al.es):=by simp [hN1]
   have hl3:bl.length=(A++[N1]++B).length:=by rw [hlen];simp;omega
   have hn3:(bl.flatMap Al.es).length=((A++[N1]++B).flatMap Al.es).length:=by rw [hf3,h1];simp [h2]
   rw [hl3,hn3] at hB3
   refine ⟨_,pb,cb,A++[N1]++B,hI'.patch hc3 hB3 hre (fun b' hb'=>?_) (List.pairwise_singleton _ _) (fun b' hb' k hk=>?_) (fun k hk=>.inr hk) (fun b' hb' x hx=>?_),?_,fun k hk=>?_,(hc1.trans (Chg.ext hx2)).trans (hI'.chgT (M:=[b]) hmb hc3)⟩
   ·simp at hb';rw [hb',hN1];exact ⟨ho3,by simp⟩
   ·simp at hb';rw [hb',hN1] at hk;exact .inr ⟨b,by simp,hk⟩
   ·simp at hb';rw [hb',hN1] at hx
    simp only [List.mem_append,List.mem_cons] at hx
    have hold:∀x,x∈b.es→∃rs,AX w3 (fun k=>F k∨(w1.heap.size≤k∧NoB w2 k)) x.p x.c rs x.vs:=fun x hx=>hI'.keep (M:=[b]) hmb hc3 b (by simp) x hx
    rcases hx with hx|hx|hx
    ·exact hold x (by rw [h2];simp [hx])
    ·subst hx
     exact ⟨rs2,(hch.mono (fun k hk=>.inr hk)).chg hc3 fun k hk hG=>(hI'.typ k hk).not (hI'.ixb hmb hG)⟩
    ·exact hold x (by rw [h2];simp [hx])
   ·have hfl:cont bl=(A.flatMap Al.es++C).map kv++(key,e.vs) :: (D++B.flatMap Al.es).map kv:=by unfold cont;rw [h1,← h5];simp [h2,kv]
    have hg:∀y∈(D++B.flatMap Al.es).map kv,blt key y.1=true:=by
     rw [hfl] at hS
     exact (List.pairwise_cons.1 hS.right).1
    rw [hfl,Oq (fun x hx=>by obtain ⟨e,he,rfl⟩:=List.mem_map.1 hx;exact h6 e he) hg,if_neg hvne]
    unfold cont;rw [hf3];simp [kv,h5]
   ·rcases hk with hk|hk
    ·exact .inl hk
    ·exact .inr (by omega)
end Go.Proofs.YtkcolpfanmdmiaaGreatDoor
namespace Go.V
theorem Zbi {c:Code} (h:W P n c (Exit.noGoto Q) E w):W P n (.scope c) Q E w:=by
 unfold W at *
 exact fun a ha=>wp_scope_straight (h a ha)
theorem Zbk {id:Nat} (h:Post n Q .normal E w):W P n (.label id) Q E w:=by
 unfold W;unfold Post at h
 exact fun a ha=>wp_label (h a ha)
theorem Zar (h:Post n Q .ret E w):Post n (Exit.noGoto Q) .ret E w:=by unfold Post at *;exact h
def Io (L:List KV) (key:ByteArray) (most:Int):List ByteArray:=if most<1 then (L.filter (fun x=>!blt x.1 key)).map (·.1) else ((L.filter (fun x=>!blt x.1 key)).map (·.1)).take most.toNat
theorem Ip {X Y:List KV} {key:ByteArray} (hX:∀x∈X,blt x.1 key=true) (hY:∀y∈Y,blt y.1 key=false):((X++Y).filter (fun x=>!blt x.1 key))=Y:=by
 rw [List.filter_append,Hf (fun x hx=>by rw [hX x hx];rfl),JU (fun y hy=>by rw [hY y hy];rfl),List.nil_append]
theorem Ob {Y:List KV} {key:ByteArray} (hs:BO Y) (h:∀y,Y.head?=some y→blt y.1 key=false):∀y∈Y,blt y.1 key=false:=by
 cases Y with
 | nil=>simp
 | cons a Y =>
  have h0:=h a rfl
  intro y hy
  rcases List.mem_cons.1 hy with rfl|hy
  ·exact h0
  ·have h1:=(List.pairwise_cons.1 hs).1 y hy
   cases h2:blt y.1 key with
   | false=>rfl
   | true=>rw [Eo h1 h2] at h0;cases h0
end Go.V
namespace Go.Proofs.YtkcolpfanmdmiaaGreatDoor
open Go.V
attribute [local irreducible] Blk Own hcell Ao Ab PlainT Ak Ad Ap Aa Ag EqT Au
theorem Ub {w:World} {ix:Nat} {F:Nat→Prop} {pb:Option Addr} {cb:Nat} {bl:List Al} {key:ByteArray} {most:Int} (hI:Bz w ix F pb cb bl) (hS:BO (cont bl)) (hn:(cont bl).length≤900) :
  Ctr Tryz.prog 64 [.pointer (some (adr (bx ix) 0)),.string key,.int .i64 most] w (fun v w'=>∃p' c',v=.slice p' (Io (cont bl) key most).length c'∧Go.V.Own w' w.heap.size 9 Ar p' c' (Io (cont bl) key most)∧Ext w w'):=by
 have hSE:Ce (bl.flatMap Al.es):=Eg.2 hS
 have hnE:(bl.flatMap Al.es).length≤1000:=by unfold cont at hn;rw [List.length_map] at hn;omega
 have hbl1:=Pt (fun b hb=>(hI.blok b hb).2)
 refine Ac Tryz.func64 Tryz.ntmps64 rfl rfl rfl ?_
 repeat' (first|refine R1 ?_|apply Zbi|fail)
 refine Q1 ?_;refine Q4 (hc:=Gr (key:=key) hI hSE hnE) ?_;rintro _ w1 ⟨i,j,ok,rfl,hf,hx1⟩;refine Kc ?_
 obtain ⟨RK,hRK,hij⟩:∃RK,RK=((cont bl).filter (fun x=>!blt x.1 key)).map (·.1)∧((i=bl.length∧j=0∧RK=[])∨∃b,bl[i]?=some b∧j≤b.es.length∧RK=(b.es.drop j++(bl.drop (i+1)).flatMap Al.es).map Ent.key):=by
  refine ⟨_,rfl,?_⟩
  rcases hf with ⟨h1,h2,_,h0⟩|⟨A,b,B,C,e0,D,h1,h2,h3,h4,h5,h6,h7⟩
  ·refine .inl ⟨h1,h2,?_⟩
   have:=Ip (X:=cont bl) (Y:=[]) (key:=key) (fun x hx=>by unfold cont at hx;obtain ⟨e,he,rfl⟩:=List.mem_map.1 hx;exact h0 e he) (fun y hy=>by cases hy)
   rw [List.append_nil] at this
   rw [this];rfl
  ·have hfl:cont bl=(A.flatMap Al.es++C).map kv++(e0 :: (D++B.flatMap Al.es)).map kv:=by unfold cont;rw [h1];simp [h2]
   have hg:=Ob (key:=key) (by rw [hfl] at hS;exact hS.right) (fun y hy=>by simp at hy;subst hy;exact h7)
   rw [hfl,Ip (fun x hx=>by obtain ⟨e,he,rfl⟩:=List.mem_map.1 hx;exact h6 e he) hg]
   refine .inr ⟨b,by rw [h1,h3];simp,by rw [h2,h4];simp,?_⟩
   have e1:b.es.drop j=e0 :: D:=by rw [h2,h4,List.drop_left' rfl]
   have e2:bl.drop (i+1)=B:=by rw [h1,h3,show A++b :: B=(A++[b])++B by simp,List.drop_left' (by simp)]
   rw [e1,e2,List.map_map];simp [kv,Function.comp_def]
 have hres:Io (cont bl) key most=if most<1 then RK else RK.take most.toNat:=by unfold Io;rw [← hRK]
 rw [hres]
 have hRKl:RK.length≤900:=by rw [hRK,List.length_map];exact Nat.le_trans (List.length_filter_le _ _) hn
 clear hRK hres hf
 have hI1:=hI.ext hx1
 repeat' (first|refine R1 ?_|apply Zbk|refine R2 ?_|fail)
 refine Zh (ι:=Nat × Nat × List ByteArray × Option Addr × Nat) (fun y=>[(0,.pointer (some (adr (bx ix) 0))),(2,.int .i64 most),(7,.int .i64 (y.1:Int)),(8,.int .i64 (y.2.1:Int)),(10,.slice y.2.2.2.1 y.2.2.1.length y.2.2.2.2)])
  (fun y w'=>Ext w1 w'∧Go.V.Own w' w1.heap.size 9 Ar y.2.2.2.1 y.2.2.2.2 y.2.2.1∧(most<1∨(y.2.2.1.length:Int)≤most)∧((y.1=bl.length∧RK=y.2.2.1)∨∃b,bl[y.1]?=some b∧y.2.1≤b.es.length∧RK=y.2.2.1++(b.es.drop y.2.1++(bl.drop (y.1+1)).flatMap Al.es).map Ent.key)) (fun y=>bl.length - y.1) (i,j,[],none,0)
  ⟨rfl,rfl,rfl,rfl,rfl,trivial⟩ ⟨Ext.rfl',Own.nil _ _ _ _,by simp;omega,by
   rcases hij with ⟨h1,h2,h3⟩|⟨b,h1,h2,h3⟩
   ·exact .inl ⟨h1,h3⟩
   ·exact .inr ⟨b,h1,h2,by rw [h3];rfl⟩⟩ ?_
 rintro ⟨a,jj,out,po,co⟩ w2 ⟨hx2,hO,hmo,hst⟩
 simp only at hO hmo hst
 refine Zn [(0,.pointer (some (adr (bx ix) 0))),(2,.int .i64 most),(7,.int .i64 (a:Int)),(8,.int .i64 (jj:Int)),(10,.slice po out.length co)] ⟨rfl,rfl,rfl,rfl,rfl,trivial⟩ ?_
 have hI2:=hI1.ext hx2
 have hbox:=hI2.box
 have hrs:=hI2.rows.sl
 have hbb:=hrs.bound
 rcases hst with ⟨ha,hR⟩|⟨b,hb,hjj,hR⟩
 ·subst ha
  repeat' (first|refine R1 ?_|(refine Q1 ?_;first|(refine Q2 (hu:=T.f216_0) ?_)|(refine Q3 (hu:=T.p214) ?_)|(refine Q6 (hu:=T.s214) ?_))|apply Zar|refine R2 ?_|(apply Za;exact rfl;all_goals (intro h;try (exfalso;omega)))|fail)
  all_goals try (exfalso;omega)
  refine Kr Tryz.results64 ?_
  have hfin:(if most<1 then RK else RK.take most.toNat)=out:=by
   split
   ·exact hR
   ·rw [hR,List.take_of_length_le (by omega)]
  rw [hfin]
  exact ⟨po,co,rfl,hO.base hx1.size,hx1.trans hx2⟩
 ·have hal:=AR hb
  have hbm:=List.mem_of_getElem? hb
  have hes:=(hI2.blok b hbm).1.sl
  have hbb2:=hes.bound
  repeat' (first|refine R1 ?_|(refine Q1 ?_;first|(refine Q13 T.s214 (q:=a) (ho:=hrs.ok) ?_)|(refine Q9 (q:=a) (e:=Ay) (hu:=T.p217) (hs:=hrs) (hq:=hb) ?_)|(refine Q27 T.s217 (q:=jj) (ho:=hes.ok) ?_)|(refine Q2 (hu:=T.f216_0) ?_)|(refine Q3 (hu:=T.p214) ?_)|(refine Q6 (hu:=by (first|exact T.s214|exact T.s217)) ?_))|refine R2 ?_|(apply Za;exact rfl;all_goals (intro h;try (exfalso;omega)))|fail)
  all_goals try (exfalso;omega)
  have hdl:(b.es.drop jj).length=b.es.length - jj:=List.length_drop
  have hok:=hes.ok.le
  have hsd:Sl w1.heap AB (AP b.p b.c jj 2) (b.c - jj) (b.es.drop jj):=(hI1.blok b hbm).1.sl.drop (by omega)
  refine Zh (ι:=Nat × List ByteArray × Option Addr × Nat) (fun y=>[(0,.pointer (some (adr (bx ix) 0))),(2,.int .i64 most),(7,.int .i64 (a:Int)),(10,.slice y.2.2.1 y.2.1.length y.2.2.2),(37,.slice (AP b.p b.c jj 2) (b.es.length - jj) (b.c - jj)),(38,.int .i64 ((b.es.length - jj:Nat):Int)),(39,.int .i64 (y.1:Int))])
   (fun y w'=>Ext w1 w'∧y.1≤b.es.length - jj∧Go.V.Own w' w1.heap.size 9 Ar y.2.2.1 y.2.2.2 y.2.1∧(most<1∨(y.2.1.length:Int)≤most)∧RK=y.2.1++((b.es.drop jj).drop y.1++(bl.drop (a+1)).flatMap Al.es).map Ent.key) (fun y=>b.es.length - jj - y.1) (0,out,po,co)
   ⟨rfl,rfl,rfl,rfl,rfl,rfl,rfl,trivial⟩ ⟨hx2,Nat.zero_le _,hO,hmo,by rw [hR];rfl⟩ ?_
  clear hR hmo hO
  rintro ⟨k,out,po,co⟩ w3 ⟨hx3,hk,hO,hmo,hR⟩
  simp only at hk hO hmo hR
  refine Zn [(0,.pointer (some (adr (bx ix) 0))),(2,.int .i64 most),(7,.int .i64 (a:Int)),(10,.slice po out.length co),(37,.slice (AP b.p b.c jj 2) (b.es.length - jj) (b.c - jj)),(38,.int .i64 ((b.es.length - jj:Nat):Int)),(39,.int .i64 (k:Int))] ⟨rfl,rfl,rfl,rfl,rfl,rfl,rfl,trivial⟩ ?_
  have hol:out.length≤RK.length:=by rw [hR];simp
  by_cases hlt:k<b.es.length - jj
  ·obtain ⟨e,he⟩:=Aj (xs:=b.es.drop jj) (k:=k) (by omega)
   have hsd3:=hsd.ext hx3
   have hok3:Okp (AP b.p b.c jj 2) (b.es.length - jj) (b.c - jj):=by have:=hsd.ok;rw [hdl] at this;exact this
   have hdk:(b.es.drop jj).drop k=e :: (b.es.drop jj).drop (k+1):=by
    obtain ⟨h1,h2⟩:=List.getElem?_eq_some_iff.1 he
    rw [List.drop_eq_getElem_cons h1,h2]
   repeat' (first|(refine Q1 ?_;first|refine Q13 T.s217 ?_|refine Q14 T.a219 ?_)|refine R1 ?_|refine R2 ?_|(apply Za;exact rfl;all_goals (intro h;try (exfalso;omega)))|fail)
   all_goals try (exfalso;omega)
   refine Q1 ?_;refine Q7 T.zero219 ?_;intro a4 w4 ha4 hA4 hx4 hs4
   have hsd4:=hsd3.ext hx4
   skip
   refine Q1 ?_;refine Q5 T.z219 hA4 ?_;intro w5 hA5 hg5 hs5
   replace hA5:Blk w5.heap a4 219 [.string e.key,.slice e.p e.vs.length e.c]:=hA5
   have hx5:Ext w3 w5:=hx4.own hg5 (fun k hk=>by injection hk;omega)
   have hO5:=hO.ext hx5
   have z3:=hx3.size
   have z2:=hx2.size
   have z5:=hx5.size
   by_cases hend:1≤most∧(out.length:Int)=most
   ·repeat' (first|refine R1 ?_|(refine Q1 ?_;(refine Q6 (hu:=T.s61) ?_))|apply Zar|refine R2 ?_|(apply Za;exact rfl;all_goals (intro h;try (exfalso;omega)))|((fail_if_success (refine Q1 ?_));apply Zb;exact rfl;exact rfl;all_goals (intro h;try (exfalso;omega)))|fail)
    all_goals try (exfalso;omega)
    refine Kr Tryz.results64 ?_
    have hfin:(if most<1 then RK else RK.take most.toNat)=out:=by
     rw [if_neg (by omega),hR,List.take_left' (by omega)]
    rw [hfin]
    exact ⟨po,co,rfl,hO5.base hx1.size,(hx1.trans hx3).trans hx5⟩
   ·repeat' (first|refine R1 ?_|(refine Q1 ?_;first|(refine Q2 (hu:=T.f219_0) ?_)|(refine Q3 (hu:=T.p9) ?_)|(refine Q6 (hu:=T.s61) ?_))|refine R2 ?_|(apply Za;exact rfl;all_goals (intro h;try (exfalso;omega)))|((fail_if_success (refine Q1 ?_));apply Zb;exact rfl;exact rfl;all_goals (intro h;try (exfalso;omega)))|fail)
    all_goals try (exfalso;omega)
    all_goals
     refine Q1 ?_
     refine Q12 Ar e.key T.s61 ?_
     intro p6 w6 hp6 hs6 _ hx6 hz6
     have hO6:=hO5.ext hx6
     repeat' (first|refine R1 ?_|(refine Q1 ?_;(refine Q16 T.s61 hO6 hs6 (xs:=out) (ys:=[e.key]) ?_;intro p7 c7 w7 ha7))|refine R2 ?_|fail)
     have hx7:Ext w1 w7:=((hx3.trans hx5).trans hx6).app ha7 (fun j hj=>(hO6.ge j hj).1)
     exact Zc (k+1,out++[e.key],p7,c7) ⟨rfl,rfl,rfl,rfl,rfl,rfl,rfl,trivial⟩ ⟨hx7,by simp only;omega,ha7.own,by simp only [List.length_append,List.length_cons,List.length_nil];omega,by simp only;rw [hR,hdk];simp⟩ (by simp only;omega)
  ·obtain rfl:k=b.es.length - jj:=by omega
   rw [List.drop_of_length_le (by omega),List.nil_append] at hR
   repeat' (first|refine R1 ?_|refine R2 ?_|(apply Za;exact rfl;all_goals (intro h;try (exfalso;omega)))|fail)
   all_goals try (exfalso;omega)
   refine Zc (a+1,0,out,po,co) ⟨rfl,rfl,rfl,rfl,rfl,trivial⟩ ⟨hx3,hO,hmo,?_⟩ (by simp only;omega)
   simp only
   by_cases hal2:a+1<bl.length
   ·obtain ⟨b',hb'⟩:=Aj hal2
    refine .inr ⟨b',hb',Nat.zero_le _,?_⟩
    obtain ⟨h1,h2⟩:=List.getElem?_eq_some_iff.1 hb'
    rw [hR,List.drop_zero,List.drop_eq_getElem_cons h1,h2,List.flatMap_cons]
   ·refine .inl ⟨by omega,?_⟩
    rw [hR,List.drop_of_length_le (by omega)];simp
end Go.Proofs.YtkcolpfanmdmiaaGreatDoor
namespace Go.V
variable {t t' u : TypeId} {a : Addr}
theorem Fq (hu:P.underlying t=some (.pointer u)) (w:World):(Op.equal t (.pointer (some a)) (.pointer none)).run P w=.ok false w:=by
 have key:∀d,(Op.equalIn (d+1) t (.pointer (some a)) (.pointer none)).run P w=.ok false w:=by
  intro d
  rw [Op.equalIn.eq_def]
  simp [run_underlying hu]
 exact key _
theorem Q15 (hu:P.underlying t=some (.pointer u)) (h:G P n ops dr l (E.put d (.bool false)) w K) (hx:E.look x=some (.pointer (some a)):=by exact rfl) (hy:E.look y=some (.pointer none):=by exact rfl) (hd:Ah n d=true:=by exact rfl):G1 P n ops dr ⟨d,.binOp .eql t x y t',ty,pos,af,g⟩ l E w K :=
 Zd _ hd (fun a ha w' _=>by simp [execOp,ha.eval hx,ha.eval hy,eqGuard,binOp,Fq hu]) h
end Go.V
namespace Go.Proofs.YtkcolpfanmdmiaaGreatDoor
open Go.V
attribute [local irreducible] Blk Own hcell Ao Ab PlainT Ak Ad Ap Aa Ag EqT Au
def Ix (w:World) (ix:Nat) (F:Nat→Prop) (L:List KV):Prop:=∃pb cb bl,Bz w ix F pb cb bl∧cont bl=L∧BO L
theorem Ix.ext {w w':World} {ix:Nat} {F:Nat→Prop} {L:List KV} (h:Ix w ix F L) (hx:Ext w w'):Ix w' ix F L:=by
 obtain ⟨pb,cb,bl,h1,h2,h3⟩:=h;exact ⟨pb,cb,bl,h1.ext hx,h2,h3⟩
theorem Ix.lt {w:World} {ix:Nat} {F:Nat→Prop} {L:List KV} (h:Ix w ix F L):ix<w.heap.size:=by
 obtain ⟨pb,cb,bl,h1,h2,h3⟩:=h;exact h1.box.lt
theorem XA {w:World}:Ctr Tryz.prog 116 [] w (fun v w'=>∃ix,v=.pointer (some (adr (bx ix) 0))∧ix=w.heap.size∧Ix w' ix (fun _=>False) []∧Ext w w') :=
 VN.mono fun _ _ ⟨ix,h1,h2,h3,h4⟩=>⟨ix,h1,h2,⟨none,0,[],h3,rfl,List.Pairwise.nil⟩,h4⟩
theorem Uh {w:World} {ix:Nat} {F:Nat→Prop} {L:List KV} {key:ByteArray} {p:Option Addr} {c n:Nat} {rs:List Aw} {vs:List Ver} (hI:Ix w ix F L) (hn:L.length≤900) (hC:Bb w.heap p c rs vs) (hsm:Fu vs) (hnl:vs.length=n) :
  Ctr Tryz.prog 67 [.pointer (some (adr (bx ix) 0)),.string key,.slice p n c] w (fun _ w'=>∃F',Ix w' ix F' (Lb L key vs)∧(∀k,F' k→F k∨w.heap.size≤k)∧FP ix w w'):=by
 obtain ⟨pb,cb,bl,h1,rfl,h3⟩:=hI
 exact (VO h1 h3 hn hC hsm hnl).mono fun v w' ⟨F',pb',cb',bl',g1,g2,g3,g4⟩=>⟨F',⟨pb',cb',bl',g1,g2,Ot h3⟩,g3,g4⟩
theorem VQ {w:World} {ix:Nat} {F:Nat→Prop} {L:List KV} {key:ByteArray} {most:Int} (hI:Ix w ix F L) (hn:L.length≤900) :
  Ctr Tryz.prog 64 [.pointer (some (adr (bx ix) 0)),.string key,.int .i64 most] w (fun v w'=>∃p' c',v=.slice p' (Io L key most).length c'∧Go.V.Own w' w.heap.size 9 Ar p' c' (Io L key most)∧Ext w w'):=by
 obtain ⟨pb,cb,bl,h1,rfl,h3⟩:=hI
 exact Ub h1 h3 hn
theorem VR {w:World} {ix:Nat} {F:Nat→Prop} {L:List KV} (hI:Ix w ix F L) :
  Ctr Tryz.prog 243 [.pointer (some (adr (bx ix) 0))] w (fun v w'=>v=.int .i64 (L.length:Int)∧Ext w w'):=by
 obtain ⟨pb,cb,bl,h1,rfl,h3⟩:=hI
 refine (VM h1).mono fun v w' ⟨h,hx⟩=>⟨by rw [h];unfold cont;rw [List.length_map],hx⟩
def c16:ByteArray:=⟨#[99]⟩
end Go.Proofs.YtkcolpfanmdmiaaGreatDoor
namespace Go.V
structure DJ (v:Ver):Prop where
 gone:v.gone=false
 val:∃t,v.val=⟨1,t,[],[],[]⟩∧t.size≤4096
 lo:1≤v.stamp
 hi:v.stamp≤1000000
 e0:0≤v.exp
 e1:v.exp≤1099511627776
structure TxC (vs:List Ver) (last:Nat):Prop where
 all:∀v∈vs,DJ v
 up:∀(i:Nat) a b,vs[i]?=some a→vs[i+1]?=some b→a.stamp<b.stamp
 top:∀v∈vs,v.stamp≤last
 len:vs.length≤60
theorem DJ.right {v:Ver} (h:DJ v):GR v.val:=by
 obtain ⟨t,h1,h2⟩:=h.val
 rw [h1]
 exact MX.2 ⟨h2,rfl,rfl,rfl⟩
theorem DJ.one {v:Ver} (h:DJ v):Vl v:=⟨h.lo,by have:=h.hi;omega,h.e0,h.e1,fun e=>(by rw [h.gone] at e;cases e),fun _=>h.right⟩
theorem DJ.bnd {v:Ver} (h:DJ v):v.val.ps.length≤1000000∧v.val.ts.length≤1000000∧v.val.zs.length≤1000000:=by
 obtain ⟨t,h1,h2⟩:=h.val
 rw [h1];simp
theorem DJ.fits {v:Ver} (h:DJ v):Ms v:=by
 obtain ⟨t,h1,h2⟩:=h.val
 refine ⟨⟨by have:=h.lo;omega,by have:=h.hi;omega⟩,⟨by have:=h.e0;omega,by have:=h.e1;omega⟩,?_⟩
 rw [h1]
 refine ⟨⟨by show (-9223372036854775808:Int)≤1;decide,by show (1:Int)≤9223372036854775807;decide⟩,?_,by simp,by simp,by simp⟩
 have:4096≤maxLen:=by decide
 simp only;omega
theorem Bv.tx {H H':Array Obj} {r:Aw} {v:Ver} (h:Bv H r v) (hv:DJ v):Bv H' r v:=by
 obtain ⟨t,h1,h2⟩:=hv.val
 refine ⟨h.stamp,h.gone,h.exp,?_⟩
 have h3:=h.val
 rw [h1] at h3 ⊢
 exact ⟨h3.kind,h3.text,h3.n1,h3.n2,h3.n3,Sl.empty h3.s1.ok,Sl.empty h3.s2.ok,Sl.empty h3.s3.ok⟩
theorem TxC.rising {vs:List Ver} {last:Nat} (h:TxC vs last):FR vs:=h.up
theorem TxC.rises {vs:List Ver} {last:Nat} (h:TxC vs last):EZ vs:=by
 intro i hi x hx
 refine ⟨(h.all x (List.mem_of_getElem? hx)).one,fun h0 y hy=>?_⟩
 obtain ⟨j,rfl⟩:∃j,i=j+1:=⟨i - 1,by omega⟩
 exact h.up j y x (by simpa using hy) hx
theorem TxC.bnd {vs:List Ver} {last:Nat} (h:TxC vs last):∀v∈vs,v.val.ps.length≤1000000∧v.val.ts.length≤1000000∧v.val.zs.length≤1000000:=fun v hv=>(h.all v hv).bnd
theorem TxC.fits {vs:List Ver} {last:Nat} (h:TxC vs last):∀v∈vs,Ms v:=fun v hv=>(h.all v hv).fits
theorem TxC.nil {last:Nat}:TxC [] last:=⟨fun v h=>(by cases h),fun i a b h=>(by simp at h),fun v h=>(by cases h),by simp⟩
theorem TxC.mono {vs:List Ver} {a b:Nat} (h:TxC vs a) (hab:a≤b):TxC vs b:=⟨h.all,h.up,fun v hv=>by have:=h.top v hv;omega,h.len⟩
theorem TxC.snoc {vs:List Ver} {last:Nat} {v:Ver} (h:TxC vs last) (hv:DJ v) (hs:v.stamp=(last+1:Nat)) (hl:vs.length≤59):TxC (vs++[v]) (last+1):=by
 refine ⟨fun u hu=>?_,fun i a b ha hb=>?_,fun u hu=>?_,by simp;omega⟩
 ·rcases List.mem_append.1 hu with hu|hu
  ·exact h.all u hu
  ·simp at hu;subst hu;exact hv
 ·have hi:=AR hb
  simp at hi
  by_cases e:i+1<vs.length
  ·rw [List.getElem?_append_left (by omega)] at ha hb
   exact h.up i a b ha hb
  ·have:i+1=vs.length:=by omega
   rw [List.getElem?_append_left (by omega)] at ha
   rw [List.getElem?_append_right (by omega),this] at hb
   simp at hb
   subst hb
   have:=h.top a (List.mem_of_getElem? ha)
   omega
 ·rcases List.mem_append.1 hu with hu|hu
  ·have:=h.top u hu;omega
  ·simp at hu;subst hu;omega
theorem TxC.drop {vs:List Ver} {last:Nat} (h:TxC vs last) (m:Nat):TxC (vs.drop m) last :=
 ⟨fun v hv=>h.all v (List.mem_of_mem_drop hv),fun i a b ha hb=>by
  rw [List.getElem?_drop] at ha hb
  exact h.up (m+i) a b ha (by rw [Nat.add_assoc];exact hb),fun v hv=>h.top v (List.mem_of_mem_drop hv),by have:=h.len;simp;omega⟩
end Go.V
namespace Go.Proofs.YtkcolpfanmdmiaaGreatDoor
open Go.V
attribute [local irreducible] Blk Own hcell Ao Ab PlainT Ak Ad Ap Aa Ag EqT Au
theorem TxC.small {vs:List Ver} {last:Nat} (h:TxC vs last):Fu vs:=⟨by have:=h.len;omega,h.bnd⟩
def L1 (key:ByteArray) (vs:List Ver):List KV:=if vs=[] then [] else [(key,vs)]
theorem L1.set {key:ByteArray} {vs us:List Ver}:Lb (L1 key vs) key us=L1 key us:=by
 unfold Lb L1
 split <;> simp [CY]
theorem L1.sorted {key:ByteArray} {vs:List Ver}:BO (L1 key vs):=by
 unfold L1 BO
 split <;> simp
theorem L1.len {key:ByteArray} {vs:List Ver}:(L1 key vs).length≤1:=by
 unfold L1
 split <;> simp
theorem Bz.chgL {w w':World} {ix:Nat} {F G:Nat→Prop} {pb:Option Addr} {cb:Nat} {bl:List Al} (h:Bz w ix F pb cb bl) (hc:Chg G w w') (hn:∀k,F k→¬G k) (hi:∀k,ix≤k→IxB w k→¬G k):Bz w' ix F pb cb bl :=
 ⟨Blk.chg h.box hc (hi _ (Nat.le_refl _) (Blk.ixB h.box (.inl rfl))),Own.chg h.rows hc (fun k hk=>hi k (h.low k (.inl hk)) (Own.ixB h.rows (.inr (.inl rfl)) hk)),
  fun b hb=>⟨Own.chg (h.blok b hb).1 hc (fun k hk=>hi k (h.low k (.inr ⟨b,hb,hk⟩)) (Own.ixB (h.blok b hb).1 (.inr (.inr rfl)) hk)),(h.blok b hb).2⟩,h.apart,
  fun b hb e he=>by obtain ⟨rs,hr⟩:=h.ent b hb e he;exact ⟨rs,hr.chg hc hn⟩,
  fun k hk=>(h.typ k hk).same (hc.block k (h.typ k hk).lt (hn k hk)),h.low⟩
theorem Ix.chgL {w w':World} {ix:Nat} {F G:Nat→Prop} {L:List KV} (h:Ix w ix F L) (hc:Chg G w w') (hn:∀k,F k→¬G k) (hi:∀k,ix≤k→IxB w k→¬G k):Ix w' ix F L:=by
 obtain ⟨pb,cb,bl,h1,h2,h3⟩:=h;exact ⟨pb,cb,bl,h1.chgL hc hn hi,h2,h3⟩
structure StR (w:World) (st ix:Nat) (F:Nat→Prop) (key:ByteArray) (vs:List Ver) (last mark:Nat):Prop where
 box:Blk w.heap st 86 [.pointer (some (adr (bx ix) 0)),.int .i64 (last:Int),.int .i64 (mark:Int)]
 ix:Ix w ix F (L1 key vs)
 good:TxC vs last
 fit:last≤100000
 ap:∀k,F k→k≠st
theorem StR.ext {w w':World} {st ix:Nat} {F:Nat→Prop} {key:ByteArray} {vs:List Ver} {last mark:Nat} (h:StR w st ix F key vs last mark) (hx:Ext w w'):StR w' st ix F key vs last mark:=⟨h.box.ext hx,h.ix.ext hx,h.good,h.fit,h.ap⟩
theorem Ju {w:World} {ix:Nat} {F:Nat→Prop} {key:ByteArray} {vs:List Ver} {last:Nat} (hI:Ix w ix F (L1 key vs)) (hG:TxC vs last) :
  Ctr Tryz.prog 65 [.pointer (some (adr (bx ix) 0)),.string key] w (fun v w'=>∃p c rs,v=.slice p rs.length c∧AX w' (fun k=>w.heap.size≤k) p c rs vs∧Ext w w'):=by
 obtain ⟨pb,cb,bl,h1,h2,h3⟩:=hI
 rw [← h2] at h3
 have hn:(bl.flatMap Al.es).length≤1:=by
  have:=L1.len (key:=key) (vs:=vs)
  rw [← h2] at this
  unfold cont at this
  rwa [List.length_map] at this
 by_cases hv:vs=[]
 ·subst hv
  have h0:cont bl=[]:=h2
  refine (Pp h1 (Eg.2 h3) (by omega) ?_).mono fun v w' ⟨hv,hx⟩=>⟨none,0,[],hv,⟨Own.nil _ _ _ _,fun k hk=>(by cases hk),rfl,fun i r v h1=>(by simp at h1)⟩,hx⟩
  intro e he hk
  unfold cont at h0
  rw [List.map_eq_nil_iff] at h0
  rw [h0] at he;cases he
 ·have hk:(key,vs)∈cont bl:=by rw [h2];unfold L1;rw [if_neg hv];simp
  unfold cont at hk
  obtain ⟨e,he,hek⟩:=List.mem_map.1 hk
  injection hek with e1 e2
  subst e1 e2
  refine (NM h1 (Eg.2 h3) (by omega) he (TxC.small hG)).mono fun v w' ⟨p,c,rs,hv,hc,hx⟩=>⟨p,c,rs,?_,hc.mono (fun k hk=>hk.1),hx⟩
  rw [hv,hc.len]
variable {key : ByteArray}
theorem GJ (h:StR w st ix F key vs last mark):Ctr Tryz.prog 15 [.pointer (some (adr (bx st) 0))] w (fun v w'=>v=.int .i64 (last:Int)∧w=w'):=by
 have hb:=h.box
 refine Ac Tryz.func15 Tryz.ntmps15 rfl rfl rfl ?_
 repeat' (first|refine R1 ?_|(refine Q1 ?_;first|(refine Q2 (hu:=T.f86_1) ?_)|(refine Q3 (hu:=T.p3) ?_))|refine R2 ?_|fail)
 refine Kr Tryz.results15 ?_
 exact ⟨rfl,rfl⟩
theorem SI (h:StR w st ix F key vs last mark):Ctr Tryz.prog 331 [.pointer (some (adr (bx st) 0)),.string key] w (fun v w'=>v=.int .i64 (lastOf vs vs.length)∧Ext w w'):=by
 have hb:=h.box
 have hg:=h.good
 have hl:vs.length≤1000:=by have:=hg.len;omega
 refine Ac Tryz.func331 Tryz.ntmps331 rfl rfl rfl ?_
 repeat' (first|refine R1 ?_|(refine Q1 ?_;first|(refine Q4 (f:=65) (hc:=Ju h.ix hg) ?_;rintro _ w1 ⟨p,c,rs,rfl,hC,hx1⟩;refine Kc ?_)|(refine Q4 (f:=447) (hc:=MC hC.at hl) ?_;rintro _ _ ⟨rfl,rfl⟩;refine Kc ?_)|(refine Q2 (hu:=T.f86_0) ?_)|(refine Q3 (hu:=T.p84) ?_))|refine R2 ?_|fail)
 refine Kr Tryz.results331 ?_
 exact ⟨rfl,hx1⟩
theorem Vg {vs:List Ver} {s:Int} {m n:Nat} (hm:GQ vs s m) (hn:GQ vs s n):m=n:=by
 by_cases h1:m<n
 ·obtain ⟨v,hv⟩:=Aj (xs:=vs) (k:=m) (by have:=hn.1;omega)
  have:=hn.2.1 m v h1 hv
  have:=hm.2.2 m v (Nat.le_refl _) hv
  omega
 ·by_cases h2:n<m
  ·obtain ⟨v,hv⟩:=Aj (xs:=vs) (k:=n) (by have:=hm.1;omega)
   have:=hm.2.1 n v h2 hv
   have:=hn.2.2 n v (Nat.le_refl _) hv
   omega
  ·omega
def Gd (vs:List Ver) (s clock:Int) (v:Ver):Prop:=∃n,GQ vs s n∧0<n∧vs[n - 1]?=some v∧Eh v clock
theorem WA {s clock:Int} (h:StR w st ix F key vs last mark):Ctr Tryz.prog 72 [.pointer (some (adr (bx st) 0)),.string key,.int .i64 s,.int .i64 clock] w (fun x w'=>∃r ok,x=.tuple #[.agg (AO.enc r).toArray,.bool ok]∧Ext w w'∧(ok=false→r=EX∧∀v,¬Gd vs s clock v)∧(ok=true→∃v,Gd vs s clock v∧Bv w'.heap r v)):=by
 have hb:=h.box
 have hg:=h.good
 have hl:vs.length≤1000:=by have:=hg.len;omega
 refine Ac Tryz.func72 Tryz.ntmps72 rfl rfl rfl ?_
 repeat' (refine R1 ?_)
 refine Q1 ?_;refine Q7 T.zero171 ?_;intro a8 w1 ha8 hA8 hx1 hs1
 replace hA8:Blk w1.heap a8 171 (AO.enc EX):=hA8
 have hb1:=hb.ext hx1
 repeat' (first|refine R1 ?_|(refine Q1 ?_;first|(refine Q4 (f:=65) (hc:=Ju (h.ix.ext hx1) hg) ?_;rintro _ w2 ⟨p,c,rs,rfl,hC,hx2⟩;refine Kc ?_;replace hA8:=hA8.ext (Kx hx2))|(refine Q4 (f:=111) (hc:=Vo hC.at hg.rising hl hg.bnd) ?_;rintro _ w3 ⟨n,r,ok,rfl,hn,hx3,hok,hr0,hr1⟩;refine Kc ?_;replace hA8:=hA8.ext (Kx hx3))|(refine Q2 (hu:=T.f86_0) ?_)|(refine Q3 (hu:=T.p84) ?_))|refine R2 ?_|fail)
 refine Q1 ?_;refine Q7 T.zero171 ?_;intro a10 w4 ha10 hA10 hx4 hs4
 skip
 refine Q1 ?_;refine Q5 T.z171 hA10 ?_;intro w5 hA10 hg5 hs5
 replace hA10:Blk w5.heap a10 171 (AO.enc r):=hA10
 have hx35:Ext w3 w5:=hx4.own hg5 (fun k hk=>by injection hk;omega)
 have hx13:=(hx1.trans hx2).trans hx3
 have hx05:=hx13.trans hx35
 replace hA8:=hA8.ext hx35
 have hz3:=hx3.size
 have hz2:=hx2.size
 cases ok with
 | false =>
  obtain rfl:n=0:=by
   by_cases e:n=0
   ·exact e
   ·exact absurd (hok.2 (by omega)) Bool.false_ne_true
  repeat' (first|refine R1 ?_|(refine Q1 ?_;(refine Q20 (.agg (AO.enc EX).toArray) Gi ?_))|refine R2 ?_|fail)
  refine Q1 ?_;refine Q5 T.z171 hA8 ?_;intro w6 hA8 hg6 hs6
  replace hA8:Blk w6.heap a8 171 (AO.enc EX):=hA8
  repeat' (first|refine R1 ?_|refine R2 ?_|fail)
  refine Ze Tryz.results72 ⟨_,_,_,rfl,rfl,Ae T.a171 (by assumption) rfl,_,_,rfl,rfl,rfl⟩ ?_
  refine ⟨EX,false,rfl,hx05.own hg6 (fun k hk=>by injection hk;omega),fun _=>⟨rfl,?_⟩,fun e=>absurd e Bool.false_ne_true⟩
  rintro v ⟨m,hm,hm0,hmv,_⟩
  have:=hm.2.1 (m - 1) v (by omega) hmv
  have:=hn.2.2 (m - 1) v (by omega) hmv
  omega
 | true =>
  have hn0:0<n:=hok.1 rfl
  obtain ⟨v,hv⟩:=Aj (xs:=vs) (k:=n - 1) (by have:=hn.1;omega)
  have hrv:=(hr1 v hn0 hv).ext hx35
  repeat' (first|refine R1 ?_|(refine Q1 ?_;first|(refine Q4 (f:=101) (hc:=JD hrv) ?_;rintro _ w6 ⟨b,rfl,hbA,hx6⟩;refine Kc ?_;replace hA8:=hA8.ext (Kx hx6);replace hA10:=hA10.ext (Kx hx6))|(refine Q20 (.agg (AO.enc EX).toArray) Gi ?_)|refine Q11 T.a171 ?_)|refine R2 ?_|(apply Zy;exact rfl;all_goals intro h)|fail)
  ·refine Q1 ?_;refine Q5 T.z171 hA8 ?_;intro w7 hA8 hg7 hs7
   replace hA8:Blk w7.heap a8 171 (AO.enc EX):=hA8
   repeat' (first|refine R1 ?_|refine R2 ?_|fail)
   refine Ze Tryz.results72 ⟨_,_,_,rfl,rfl,Ae T.a171 (by assumption) rfl,_,_,rfl,rfl,rfl⟩ ?_
   refine ⟨EX,false,rfl,(hx05.trans hx6).own hg7 (fun k hk=>by injection hk;omega),fun _=>⟨rfl,?_⟩,fun e=>absurd e Bool.false_ne_true⟩
   rintro u ⟨m,hm,hm0,hmv,hal⟩
   obtain rfl:=Vg hm hn
   obtain rfl:u=v:=by rw [hv] at hmv;simpa using hmv.symm
   have:=hbA.2 hal
   simp_all
  ·refine Q1 ?_;refine Q5 T.z171 hA8 ?_;intro w7 hA8 hg7 hs7
   replace hA8:Blk w7.heap a8 171 (AO.enc r):=hA8
   repeat' (first|refine R1 ?_|refine R2 ?_|fail)
   refine Ze Tryz.results72 ⟨_,_,_,rfl,rfl,Ae T.a171 (by assumption) rfl,_,_,rfl,rfl,rfl⟩ ?_
   have hz6:=hx6.size
   refine ⟨r,true,rfl,(hx05.trans hx6).own hg7 (fun k hk=>by injection hk;omega),fun e=>absurd e.symm Bool.false_ne_true,fun _=>⟨v,⟨n,hn,hn0,hv,hbA.1 (by simp_all)⟩,?_⟩⟩
   exact (hrv.ext hx6).tx (hg.all v (List.mem_of_getElem? hv))
end Go.Proofs.YtkcolpfanmdmiaaGreatDoor
namespace Go.V
structure Dk (r:CO):Prop where
 kind:r.kind=1
 n1:r.n1=0
 n2:r.n2=0
 n3:r.n3=0
 o1:Okp r.p1 0 r.c1
 o2:Okp r.p2 0 r.c2
 o3:Okp r.p3 0 r.c3
 size:r.text.size≤4096
theorem Sl.none_ {α:Type} {H:Array Obj} {e:Enc α} {p:Option Addr} {c:Nat} (h:Okp p 0 c):Sl H e p c []:=⟨h,fun i x hi=>by simp at hi⟩
theorem Dk.rv {r:CO} (h:Dk r) (H:Array Obj):Rv H r ⟨1,r.text,[],[],[]⟩:=⟨h.kind,rfl,h.n1,h.n2,h.n3,Sl.none_ h.o1,Sl.none_ h.o2,Sl.none_ h.o3⟩
structure Wt where
 key:ByteArray
 stamp:Int
 gone:Bool
 exp:Int
 val:CO
def eWt:Enc Wt:=⟨9,fun x=>.string x.key :: .int .i64 x.stamp :: .bool x.gone :: .int .i64 x.exp :: Dl.enc x.val,fun x=>by simp [Dl],fun x v hv=>by
 simp only [List.mem_cons] at hv
 rcases hv with rfl|rfl|rfl|rfl|hv
 ·rfl
 ·rfl
 ·rfl
 ·rfl
 ·exact Enc.one Dl x.val v hv,by decide⟩
def Wt.ver (x:Wt) (st:Int):Aw:=⟨st,x.gone,x.exp,x.val⟩
def Wt.v (x:Wt) (st:Int):Ver:=⟨st,x.gone,x.exp,⟨1,x.val.text,[],[],[]⟩⟩
theorem Vj (x:Wt):((eWt.enc x).drop 1).take 8=AO.enc (x.ver x.stamp):=rfl
structure TxW (x:Wt):Prop where
 key:x.key.size≤256
 gone:x.gone=false
 val:Dk x.val
 e0:0≤x.exp
 e1:x.exp≤1099511627776
theorem TxW.tx {x:Wt} (h:TxW x) {st:Int} (h1:1≤st) (h2:st≤1000000):DJ (x.v st):=⟨h.gone,⟨_,rfl,h.val.size⟩,h1,h2,h.e0,h.e1⟩
theorem TxW.at {x:Wt} (h:TxW x) (st:Int) (H:Array Obj):Bv H (x.ver st) (x.v st):=⟨rfl,rfl,rfl,h.val.rv H⟩
theorem Lp {H:Array Obj} {p:Option Addr} {c:Nat} {r:Aw} {v:Ver} (hs:Sl H AO p c [r]) (hv:Bv H r v):Bb H p c [r] [v] :=
 ⟨hs,rfl,fun i r' v' h1 h2=>by
  cases i with
  | zero=>simp at h1 h2;subst h1 h2;exact hv
  | succ k=>simp at h1⟩
end Go.V
namespace Go.Proofs.YtkcolpfanmdmiaaGreatDoor
open Go.V
attribute [local irreducible] Blk Own hcell Ao Ab PlainT Ak Ad Ap Aa Ag EqT Au
theorem OE {vs:List Ver} {last:Nat} (h:TxC vs last):∀v∈vs,JB v:=fun v hv=>⟨(h.all v hv).fits,(h.all v hv).gone,by obtain ⟨t,h1,_⟩:=(h.all v hv).val;rw [h1]⟩
variable {x : Wt}
theorem UT (hx:TxW x):Ctr Tryz.prog 119 [.agg (eWt.enc x).toArray] w (fun v w'=>v=.bool true∧Ext w w'):=by
 have hk:=hx.key
 refine Ac Tryz.func119 Tryz.ntmps119 rfl rfl rfl ?_
 repeat' (refine R1 ?_)
 refine Q1 ?_;refine Q8 ?_;intro a1 w1 ha1 hA1 hx1 hs1
 replace hA1:Blk w1.heap a1 173 (eWt.enc x):=hA1
 repeat' (first|refine R1 ?_|(refine Q1 ?_;(refine Q2 (hu:=by (first|exact T.f173_1|exact T.f171_0)) ?_))|fail)
 refine Q1 ?_;refine Q5 T.z3 hA1 ?_;intro w2 hA2 hg2 hs2
 replace hA2:Blk w2.heap a1 173 (eWt.enc ⟨x.key,1,x.gone,x.exp,x.val⟩):=hA2
 have hx2:Ext w w2:=hx1.own hg2 (fun k hk=>by injection hk;omega)
 repeat' (first|refine R1 ?_|(refine Q1 ?_;first|(refine Q34 T.a171 (hb:=hA2) (hv:=Vj _) ?_)|(refine Q2 (hu:=by (first|exact T.f173_1|exact T.f173_0)) ?_)|(refine Q3 (hu:=T.p9) ?_)|refine Q17 T.str9 ?_)|refine R2 ?_|((fail_if_success (refine Q1 ?_));apply Zb;exact rfl;exact rfl;all_goals (intro h;try (exfalso;omega)))|fail)
 ·refine Q1 ?_
  refine Q12 AO (x.ver 1) T.s157 ?_
  intro p3 w3 hp3 hs3 _ hx3 hz3
  have hv:DJ (x.v 1):=hx.tx (by decide) (by decide)
  have hC:Bb w3.heap p3 1 [x.ver 1] [x.v 1]:=Lp hs3 (hx.at 1 _)
  have hT:TxC [x.v 1] 1:=by
   have:=TxC.nil.snoc (last:=0) hv rfl (by simp)
   simpa using this
  repeat' (first|refine R1 ?_|(refine Q1 ?_;(refine Q4 (f:=184) (hc:=Nv hC (OE hT) hT.bnd) ?_;rintro _ w4 ⟨b,rfl,hb,hx4⟩;refine Kc ?_))|refine R2 ?_|fail)
  refine Kr Tryz.results119 ?_
  exact ⟨by rw [hb.2 ⟨by simp,hT.rises⟩];rfl,(hx2.trans hx3).trans hx4⟩
 ·exfalso;simp only at h;omega
theorem UR {q:Option Addr} {d:Nat} (hk:x.key.size≤256) (hS:Sl w.heap eWt q d [x]):Ctr Tryz.prog 120 [.slice q 1 d] w (fun v w'=>v=.bool false∧Ext w w'):=by
 refine Ac Tryz.func120 Tryz.ntmps120 rfl rfl rfl ?_
 repeat' (first|refine R1 ?_|(refine Q1 ?_;first|(refine Q114 Tryz.underlying293 rfl rfl rfl ?_;intro b w1 hb hM hx1 hz1)|(refine Q6 (hu:=T.s120) ?_))|refine R2 ?_|fail)
 have hS1:=hS.ext hx1
 refine Zm ?_
 repeat' (first|(refine Q1 ?_;first|(refine Q14 T.a173 (hs:=hS1) (hq:=(show [x][0]?=some x from rfl)) ?_)|refine Q25 T.s120 ?_)|refine R1 ?_|refine R2 ?_|fail)
 refine Q1 ?_;refine Q7 T.zero173 ?_;intro a5 w2 ha5 hA5 hx2 hs2
 skip
 refine Q1 ?_;refine Q5 T.z173 hA5 ?_;intro w3 hA5 hg3 hs3
 replace hA5:Blk w3.heap a5 173 (eWt.enc x):=hA5
 have hx13:Ext w1 w3:=hx2.own hg3 (fun k hk=>by injection hk;omega)
 have hM3:=hM.ext hx13
 have hm:x.key.size≤maxLen:=Nat.le_trans hk (by decide)
 have hx03:=hx1.trans hx13
 have hz13:=hx13.size
 repeat' (first|refine R1 ?_|(refine Q1 ?_;first|(refine Q109 Tryz.underlying293 Tryz.underlying9 Tryz.underlying3 T.zero3 rfl rfl hm hM3 rfl ?_;simp only [Option.getD_none])|(refine Q121 Tryz.underlying293 Tryz.underlying9 Tryz.underlying3 rfl rfl rfl hm hM3 rfl rfl rfl (m:=0) (hv:=by (simp)) (hm:=by (decide)) ?_;intro w4 hM4 hg4)|(refine Q2 (hu:=T.f173_0) ?_)|(refine Q3 (hu:=T.p9) ?_))|refine R2 ?_|fail)
 refine Zg ?_
 refine Zn [(0,.slice q 1 d),(3,.map (some b)),(9,.slice q 1 d),(10,.int .i64 1),(11,.int .i64 1)] ⟨rfl,rfl,rfl,rfl,rfl,trivial⟩ ?_
 simp only [Option.isSome_none,Bool.false_eq_true,if_false,Nat.zero_add] at hM4
 repeat' (first|refine R1 ?_|(refine Q1 ?_;first|(refine Q117 Tryz.underlying293 rfl hM4 rfl (t:=293) ?_)|(refine Q6 (hu:=T.s120) ?_))|refine R2 ?_|fail)
 all_goals try (exfalso;omega)
 refine Kr Tryz.results120 ?_
 exact ⟨by simp [Cj],hx03.own hg4 (fun k hk=>by injection hk;omega)⟩
theorem Oz (hx:TxW x) {b3:Nat} (hb:Blk w.heap b3 246 [.func (.func 119) #[] #[]]):Ctr Tryz.prog 186 [.agg (eWt.enc x).toArray,.pointer (some (adr (bx b3) 0))] w (fun v w'=>v=.bool false∧Ext w w'):=by
 refine Ac Tryz.func186 Tryz.ntmps186 rfl rfl rfl ?_
 repeat' (refine R1 ?_)
 refine Q1 ?_;refine Q8 ?_;intro a1 w1 ha1 hA1 hx1 hs1
 replace hA1:Blk w1.heap a1 173 (eWt.enc x):=hA1
 replace hb:=hb.ext hx1
 repeat' (first|refine R1 ?_|(refine Q1 ?_;first|(refine Q3 (hu:=T.p246) (hb:=hb) ?_)|refine Q11 T.a173 ?_)|fail)
 refine Q1 ?_;refine Q22 (hc:=UT hx) ?_;rintro _ w2 ⟨rfl,hx2⟩;refine Kc ?_
 repeat' (first|refine R1 ?_|refine R2 ?_|fail)
 refine Kr Tryz.results186 ?_
 exact ⟨rfl,hx1.trans hx2⟩

theorem Wz {q:Option Addr} {d b3:Nat} (hx:TxW x) (hS:Sl w.heap eWt q d [x]) (hb:Blk w.heap b3 246 [.func (.func 119) #[] #[]]):Ctr Tryz.prog 242 [.slice q 1 d,.func (.func 186) #[] #[.pointer (some (adr (bx b3) 0))]] w (fun v w'=>v=.int .i64 (-1)∧Ext w w'):=by
 refine Ac Tryz.func242 Tryz.ntmps242 rfl rfl rfl ?_
 repeat' (first|refine R1 ?_|(refine Q1 ?_;(refine Q6 (hu:=T.s120) ?_))|refine R2 ?_|fail)
 refine Zm ?_
 repeat' (first|refine R1 ?_|(refine Q1 ?_;first|(refine Q14 T.a173 (hs:=hS) (hq:=(show [x][0]?=some x from rfl)) ?_)|refine Q25 T.s120 ?_)|refine R2 ?_|fail)
 refine Q1 ?_;refine Q22 (hc:=Oz hx hb) ?_;rintro _ w2 ⟨rfl,hx2⟩;refine Kc ?_
 repeat' (first|refine R1 ?_|refine R2 ?_|fail)
 refine Zg ?_
 repeat' (first|refine R1 ?_|refine R2 ?_|fail)
 all_goals try (exfalso;omega)
 refine Kr Tryz.results242 ?_
 exact ⟨rfl,hx2⟩
theorem UO {q:Option Addr} {d b3:Nat} (hx:TxW x) (hS:Sl w.heap eWt q d [x]) (hb:Blk w.heap b3 246 [.func (.func 119) #[] #[]]):Ctr Tryz.prog 185 [.slice q 1 d,.func (.func 186) #[] #[.pointer (some (adr (bx b3) 0))]] w (fun v w'=>v=.bool false∧Ext w w'):=by
 refine Ac Tryz.func185 Tryz.ntmps185 rfl rfl rfl ?_
 repeat' (first|refine R1 ?_|(refine Q1 ?_;(refine Q4 (f:=242) (hc:=Wz hx hS hb) ?_;rintro _ w2 ⟨rfl,hx2⟩;refine Kc ?_))|refine R2 ?_|fail)
 refine Kr Tryz.results185 ?_
 exact ⟨rfl,hx2⟩
theorem XK {q:Option Addr} {d:Nat} (hx:TxW x) (hS:Sl w.heap eWt q d [x]):Ctr Tryz.prog 121 [.slice q 1 d,.func (.func 119) #[] #[]] w (fun v w'=>v=.bool true∧Ext w w'):=by
 refine Ac Tryz.func121 Tryz.ntmps121 rfl rfl rfl ?_
 repeat' (refine R1 ?_)
 refine Q1 ?_;refine Q8 ?_;intro a3 w1 ha3 hA3 hx1 hs1
 replace hA3:Blk w1.heap a3 246 [.func (.func 119) #[] #[]]:=hA3
 repeat' (first|refine R1 ?_|(refine Q1 ?_;(refine Q4 (f:=185) (hc:=UO hx (hS.ext hx1) hA3) ?_;rintro _ w2 ⟨rfl,hx2⟩;refine Kc ?_))|refine R2 ?_|fail)
 refine Kr Tryz.results121 ?_
 exact ⟨rfl,hx1.trans hx2⟩
variable {key : ByteArray}

theorem Mf {q:Option Addr} {d:Nat} (h0:StR w st ix F key vs last mark) (hx:TxW x) (hk:x.key=key) (hS:Sl w.heap eWt q d [x]) (hl:vs.length≤59):Ctr Tryz.prog 187 [.pointer (some (adr (bx st) 0)),.slice q 1 d] w (fun v w'=>∃p c hd rs,v=.tuple #[.slice p 1 c,.int .i64 0]∧Sl w'.heap Eu p c [hd]∧hd.2.1=(vs++[x.v (last+1:Nat)]).length∧Bb w'.heap hd.1 hd.2.2 rs (vs++[x.v (last+1:Nat)])∧Ext w w'):=by
 have hb:=h0.box
 have hf:=h0.fit
 have hkk:=hx.key
 refine Ac Tryz.func187 Tryz.ntmps187 rfl rfl rfl ?_
 repeat' (first|refine R1 ?_|(refine Q1 ?_;first|(refine Q4 (f:=120) (hc:=UR hx.key hS) ?_;rintro _ w1 ⟨rfl,hx1⟩;refine Kc ?_;replace hS:=hS.ext (Kx hx1);replace hb:=hb.ext (Kx hx1))|(refine Q4 (f:=121) (hc:=XK hx hS) ?_;rintro _ w2 ⟨rfl,hx2⟩;refine Kc ?_;replace hS:=hS.ext (Kx hx2);replace hb:=hb.ext (Kx hx2))|(refine Q2 (hu:=T.f86_1) ?_)|(refine Q3 (hu:=T.p3) ?_)|(refine Q6 (hu:=T.s120) ?_))|refine R2 ?_|((fail_if_success (refine Q1 ?_));apply Zb;exact rfl;exact rfl;all_goals (intro h;try (exfalso;omega)))|fail)
 refine Q1 ?_
 refine Q28 Eu T.s294 ?_
 intro p3 w3 ho3 hx3 hz3
 have hx03:=(hx1.trans hx2).trans hx3
 have h3:=h0.ext hx03
 have hb3:=h3.box
 replace hS:=hS.ext hx3
 repeat' (first|refine R1 ?_|(refine Q1 ?_;first|(refine Q4 (f:=243) (hc:=VR h3.ix) ?_;rintro _ w4 ⟨rfl,hx4⟩;refine Kc ?_;replace hS:=hS.ext (Kx hx4);replace hb3:=hb3.ext (Kx hx4))|(refine Q2 (hu:=T.f86_0) ?_)|(refine Q3 (hu:=T.p84) ?_)|(refine Q6 (hu:=T.s120) ?_))|refine R2 ?_|fail)
 have h4:=h3.ext hx4
 have hx04:=hx03.trans hx4
 refine Zm ?_
 repeat' (first|(refine Q1 ?_;first|(refine Q14 T.a173 (hs:=hS) (hq:=(show [x][0]?=some x from rfl)) ?_)|refine Q25 T.s120 ?_)|refine R1 ?_|refine R2 ?_|fail)
 all_goals try (exfalso;omega)
 refine Q1 ?_;refine Q7 T.zero173 ?_;intro a10 w5 ha10 hA10 hx5 hs5
 skip
 refine Q1 ?_;refine Q5 T.z173 hA10 ?_;intro w6 hA10 hg6 hs6
 replace hA10:Blk w6.heap a10 173 (eWt.enc x):=hA10
 have hx46:Ext w4 w6:=hx5.own hg6 (fun k hk=>by injection hk;omega)
 have hx46d:Ext w4 w6.drew:=Ext.drew hx46
 have h6:=h4.ext hx46d
 have hb6:=h6.box
 replace hA10:Blk w6.drew.heap a10 173 (eWt.enc x):=hA10
 subst hk
 repeat' (first|refine R1 ?_|(refine Q1 ?_;first|(refine Q4 (f:=65) (hc:=Ju h6.ix h6.good) ?_;rintro _ w7 ⟨p7,c7,rs7,rfl,hC7,hx7⟩;refine Kc ?_;replace hA10:=hA10.ext (Kx hx7);replace hb6:=hb6.ext (Kx hx7))|(refine Q2 (hu:=by (first|exact T.f86_1|exact T.f86_0|exact T.f173_0|exact T.f173_1|exact T.f171_0)) ?_)|(refine Q3 (hu:=by (first|exact T.p3|exact T.p84|exact T.p9)) ?_))|refine R2 ?_|refine Zf 1 [] [0,1,2,3,4,5,6,7] mixed (by decide +kernel) ?_|fail)
 refine Q1 ?_;refine Q5 T.z3 hA10 ?_;intro w8 hA10 hg8 hs8
 replace hA10:Blk w8.heap a10 173 (eWt.enc ⟨x.key,(last+1:Nat),x.gone,x.exp,x.val⟩):=hA10
 have hx48:Ext w4 w8:=(hx46d.trans hx7).own hg8 (fun k hk=>by injection hk;omega)
 have z46:=hx46d.size
 have z67:=hx7.size
 have hC8:=hC7.chg (G:=fun k=>k=a10) (Chg.grown hg8 (fun k hk=>by injection hk with hk;exact hk.symm)) (fun k hk e=>by have e':k=a10:=e;have hk':w6.drew.heap.size≤k:=hk;have hd6:w6.drew.heap.size=w6.heap.size:=rfl;omega)
 have hb8:=hb6.grown hg8 (fun e=>by injection e with e;have:=hb3.lt;omega)
 have h8:=h4.ext hx48
 repeat' (first|refine R1 ?_|(refine Q1 ?_;first|(refine Q34 T.a171 (hb:=hA10) (hv:=Vj _) ?_)|(refine Q2 (hu:=T.f173_1) ?_))|fail)
 refine Q1 ?_
 refine Q12 AO (x.ver (last+1:Nat)) T.s157 ?_
 intro p9 w9 hp9 hs9 _ hx9 hz9
 have hv9:DJ (x.v (last+1:Nat)):=hx.tx (by omega) (by omega)
 have hT9:=h0.good.snoc hv9 rfl hl
 have hC9:Bb w9.heap p9 1 [x.ver (last+1:Nat)] [x.v (last+1:Nat)]:=Lp hs9 (hx.at _ _)
 have hl7:=hC7.len
 have hL:=L1.len (key:=x.key) (vs:=vs)
 repeat' (first|refine R1 ?_|(refine Q1 ?_;first|(refine Q4 (f:=244) (hc:=Ru (hC8.ext hx9).at hC9 (by simp;omega) hT9.rises (OE hT9) hT9.bnd) ?_;rintro _ w10 ⟨pP,cP,rsP,rfl,hOP,hP,hx10⟩;refine Kc ?_)|(refine Q6 (hu:=T.s157) ?_))|refine R2 ?_|(apply Za;exact rfl;all_goals (intro h;try (exfalso;omega)))|fail)
 all_goals
  refine Q1 ?_
  refine Q12 Eu (pP,rsP.length,cP) T.s294 ?_
  intro p11 w11 hp11 hs11 _ hx11 hz11
  have hxA:Ext w4 w11:=((hx48.trans hx9).trans hx10).trans hx11
  have hO11:=(ho3.ext hx4).ext hxA
  have z3:=hx03.size
  have z2:=(hx1.trans hx2).size
  have z4:=hx4.size
  have zA:=hxA.size
  have hPl:=hP.len
  rw [List.length_append] at hPl
  repeat' (first|refine R1 ?_|(refine Q1 ?_;(refine Q16 T.s294 hO11 hs11 (hlen:=by (simp)) (hmax:=by (simp)) ?_;intro p12 c12 w12 ha12))|refine R2 ?_|fail)
  refine Zg ?_
  repeat' (first|refine R1 ?_|refine R2 ?_|(apply Za;exact rfl;all_goals (intro h;try (exfalso;omega)))|fail)
  all_goals try (exfalso;omega)
  refine Kr Tryz.results187 ?_
  have hO':=(hOP.ext hx11).kept ha12.grown (hO11.neT (hOP.ext hx11) (by decide))
  have hPl':=hP.len
  refine ⟨p12,c12,(pP,rsP.length,cP),rsP,rfl,ha12.own.sl,hPl',⟨hO'.sl,hPl',fun i r v h1 h2=>(hP.get i r v h1 h2).tx (hT9.all v (List.mem_of_getElem? h2))⟩,?_⟩
  exact (hx04.trans hxA).app ha12 (fun k hk=>Nat.le_trans (hx1.trans hx2).size (ho3.ge k hk).1)
theorem UN {q:Option Addr} {d:Nat} (h0:StR w st ix F key vs last mark) (hx:TxW x) (hk:x.key=key) (hS:Sl w.heap eWt q d [x]) (hl:vs.length≤59):Ctr Tryz.prog 221 [.pointer (some (adr (bx st) 0)),.slice q 1 d] w (fun v w'=>v=.int .i64 0∧Ext w w'):=by
 refine Ac Tryz.func221 Tryz.ntmps221 rfl rfl rfl ?_
 repeat' (first|refine R1 ?_|(refine Q1 ?_;(refine Q4 (f:=187) (hc:=Mf h0 hx hk hS hl) ?_;rintro _ w1 ⟨p1,c1,hd,rs,rfl,_,_,_,hx1⟩;refine Kc ?_))|refine R2 ?_|fail)
 refine Kr Tryz.results221 ?_
 exact ⟨rfl,hx1⟩

theorem UM {q:Option Addr} {d:Nat} (h0:StR w st ix F key vs last mark) (hx:TxW x) (hk:x.key=key) (hS:Sl w.heap eWt q d [x]) (hl:vs.length≤59) (hfit':last+1≤100000) :
  Ctr Tryz.prog 122 [.pointer (some (adr (bx st) 0)),.slice q 1 d] w (fun v w'=>v=.tuple #[.int .i64 (last+1:Nat),.int .i64 0]∧∃F',StR w' st ix F' key (vs++[x.v (last+1:Nat)]) (last+1) mark∧(∀k,F' k→F k∨w.heap.size≤k)∧Chg (fun k=>k=st∨ix≤k∧IxB w k) w w'):=by
 refine Ac Tryz.func122 Tryz.ntmps122 rfl rfl rfl ?_
 repeat' (first|refine R1 ?_|(refine Q1 ?_;first|(refine Q4 (f:=187) (hc:=Mf h0 hx hk hS hl) ?_;rintro _ w1 ⟨p1,c1,hr1,rs,rfl,hS1,hn1,hC1,hx1⟩;refine Kc ?_;replace hS:=hS.ext (Kx hx1))|(refine Q6 (hu:=T.s120) ?_))|refine R2 ?_|fail)
 refine Zm ?_
 repeat' (first|refine R1 ?_|(refine Q1 ?_;first|(refine Q14 T.a173 (hs:=hS) (hq:=(show [x][0]?=some x from rfl)) ?_)|refine Q25 T.s120 ?_)|refine R2 ?_|fail)
 all_goals try (exfalso;omega)
 refine Q1 ?_;refine Q7 T.zero173 ?_;intro a9 w2 ha9 hA9 hx2 hs2
 repeat' (refine Q1 ?_;refine Q39 ?_)
 refine Q1 ?_;refine Q5 T.z173 hA9 ?_;intro w3 hA9 hg3 hs3
 replace hA9:Blk w3.heap a9 173 (eWt.enc x):=hA9
 have hx13:Ext w1 w3:=hx2.own hg3 (fun k hk=>by injection hk;omega)
 have hxd:Ext w1 w3.drew:=Ext.drew hx13
 have hx0d:Ext w w3.drew:=hx1.trans hxd
 refine Zu ?_
 refine Zr ?_
 refine Zf 2 [] [0,1,2,3,4,5,6,7,8,9,10] mixed (by decide +kernel) ?_
 have hd:=h0.ext hx0d
 have hbd:=hd.box
 have hAd:Blk w3.drew.heap a9 173 (eWt.enc x):=hA9
 have hSd:=hS1.ext hxd
 have hv:DJ (x.v (last+1:Nat)):=hx.tx (by have:=h0.fit;omega) (by have:=h0.fit;omega)
 have hT:=h0.good.snoc hv rfl hl
 subst hk
 have hL:=L1.len (key:=x.key) (vs:=vs)
 repeat' (refine Q1 ?_;first|refine Q19 ?_|refine Q21 ?_|(refine Q9 (q:=0) (e:=Eu) (hu:=T.p157) (hs:=hSd) (hq:=(show [hr1][0]?=some _ from rfl)) ?_)|(refine Q2 (hu:=by (first|exact T.f86_0|exact T.f173_0)) ?_)|(refine Q3 (hu:=by (first|exact T.p84|exact T.p9)) ?_)|refine Q25 T.s294 ?_)
 refine Q1 ?_;refine Q4 (hc:=Uh (key:=x.key) hd.ix (by omega) (hC1.ext hxd) (TxC.small hT) hn1.symm) ?_;rintro _ w4 ⟨F',hI4,hF4,hc4⟩;refine Kc ?_
 rw [L1.set] at hI4
 have hz0d:=hx0d.size
 have hfit:=h0.fit
 have hb4:=Blk.chg hbd hc4 (fun e=>(Blk.noB hbd (by unfold ixT;decide)).not e.2)
 repeat' (first|refine R1 ?_|refine R2 ?_|fail)
 refine Zg ?_
 repeat' (first|refine R1 ?_|(refine Q1 ?_;first|(refine Q2 (hu:=T.f86_1) ?_)|(refine Q3 (hu:=T.p3) ?_))|refine R2 ?_|fail)
 all_goals try (exfalso;omega)
 refine Q1 ?_;refine Q5 T.z3 hb4 ?_;intro w5 hb5 hg5 hs5
 replace hb5:Blk w5.heap st 86 [.pointer (some (adr (bx ix) 0)),.int .i64 ((last+1:Nat):Int),.int .i64 (mark:Int)]:=hb5
 repeat' (first|refine R1 ?_|(refine Q1 ?_;first|(refine Q2 (hu:=T.f86_1) ?_)|(refine Q3 (hu:=T.p3) ?_))|refine R2 ?_|fail)
 refine Kr Tryz.results122 ?_
 have hlt:=h0.box.lt
 have hF5:∀k,F' k→F k∨w.heap.size≤k:=fun k hk=>by
  rcases hF4 k hk with h1|h1
  ·exact .inl h1
  ·exact .inr (Nat.le_trans hz0d h1)
 have hap:∀k,F' k→k≠st:=fun k hk e=>by
  rcases hF5 k hk with h1|h1
  ·exact h0.ap k h1 e
  ·omega
 have hc5:Chg (fun k=>k=st) w4 w5:=Chg.grown hg5 (fun k hk=>by injection hk with hk;exact hk.symm)
 have hix:∀k,IxB w4 k→k≠st:=fun k hk e=>by
  subst e
  exact (Blk.noB hb4 (by unfold ixT;decide)).not hk
 refine ⟨by simp [Cj],F',⟨hb5,hI4.chgL hc5 hap (fun k _ hk e=>hix k hk e),hT,by have:=h0.fit;have:=h0.good.len;exact hfit',hap⟩,hF5,?_⟩
 refine ⟨hc5.os.trans (hc4.os.trans hx0d.os),hc5.tape.trans (hc4.tape.trans hx0d.tape),hc5.output.trans (hc4.output.trans hx0d.output),Nat.le_trans hz0d (Nat.le_trans hc4.size hc5.size),fun k hk hn=>?_⟩
 have e0:=hx0d.block k hk
 have hkd:k<w3.drew.heap.size:=Nat.lt_of_lt_of_le hk hz0d
 rw [hc5.block k (Nat.lt_of_lt_of_le hkd hc4.size) (fun e=>hn (.inl e)),hc4.block k hkd (fun e=>hn (.inr ⟨e.1,by obtain ⟨cs,T,fr,q1,q2⟩:=e.2;exact ⟨cs,T,fr,by rw [← e0];exact q1,q2⟩⟩))]
 exact e0
theorem Wj (s:ByteArray):blt s ⟨#[]⟩=false:=by
 cases s;rename_i a;cases a;rename_i l
 cases l <;> rfl
theorem Xy {key:ByteArray} {vs:List Ver}:Io (L1 key vs) ⟨#[]⟩ 0=if vs=[] then [] else [key]:=by
 unfold Io L1
 split
 ·split <;> simp [Wj]
 ·rename_i h;exact absurd (by decide) h
end Go.Proofs.YtkcolpfanmdmiaaGreatDoor
namespace Go.V
def ePt:Enc Nat:=⟨1,fun b=>[.pointer (some (adr (bx b) 0))],fun _=>rfl,fun _ v hv=>by simp at hv;subst hv;rfl,by decide⟩
theorem Dk.of_rv {H:Array Obj} {r:CO} {t:ByteArray} (h:Rv H r ⟨1,t,[],[],[]⟩) (hs:t.size≤4096):Dk r∧r.text=t:=by
 refine ⟨⟨h.kind,h.n1,h.n2,h.n3,h.s1.ok,h.s2.ok,h.s3.ok,?_⟩,h.text⟩
 rw [h.text];exact hs
def IM (o:Option Wt):Option (ByteArray × Value):=match o with
 | none=>none
 | some x=>some (x.key,.agg (AO.enc (x.ver x.stamp)).toArray)
structure Nj (x y:Wt):Prop where
 key:y.key=x.key
 stamp:y.stamp=x.stamp
 exp:y.exp=x.exp
 text:y.val.text=x.val.text
 ok:TxW y
theorem Nj.v {x y:Wt} (h:Nj x y) (hx:TxW x) (st:Int):y.v st=x.v st:=by
 unfold Wt.v;rw [h.exp,h.text,h.ok.gone,hx.gone]
def WN (k:ByteArray) (r:Aw):Wt:=⟨k,r.stamp,r.gone,r.exp,r.raw⟩
end Go.V
namespace Go.Proofs.YtkcolpfanmdmiaaGreatDoor
open Go.V
attribute [local irreducible] Blk Own hcell Ao Ab PlainT Ak Ad Ap Aa Ag EqT Au
theorem Rt (k:ByteArray) (r:Aw) (w:World):(Instr.build 173 [(0,Value.string k),(1,Value.agg (AO.enc r).toArray)].toArray).run Tryz.prog w=.ok (.agg (eWt.enc (WN k r)).toArray) w:=by kernel_rfl
structure Gg (w:World) (t m:Nat) (start clock:Int) (ro:Bool) (mp:Nat) (o:Option Wt):Prop where
 box:Blk w.heap t 111 [.pointer (some (adr (bx m) 0)),.int .i64 start,.int .i64 clock,.bool ro,.map (some mp)]
 map:Cy Tryz.prog w 9 mp (IM o)
 ok:∀x,o=some x→TxW x
theorem Gg.ext {w w':World} {t m:Nat} {start clock:Int} {ro:Bool} {mp:Nat} {o:Option Wt} (h:Gg w t m start clock ro mp o) (hx:Ext w w'):Gg w' t m start clock ro mp o:=⟨h.box.ext hx,h.map.ext hx,h.ok⟩
theorem Gg.key {w:World} {t m:Nat} {start clock:Int} {ro:Bool} {mp:Nat} {o:Option Wt} (h:Gg w t m start clock ro mp o):∀s v,IM o=some (s,v)→s.size≤4096:=by
 intro s v e
 cases o with
 | none=>cases e
 | some x =>
  simp only [IM,Option.some.injEq,Prod.mk.injEq] at e
  have:=(h.ok x rfl).key
  rw [← e.1];omega
theorem OG {w:World} {t m:Nat} {start clock:Int} {ro:Bool} {mp:Nat} {o:Option Wt} (hT:Gg w t m start clock ro mp o) :
  Ctr Tryz.prog 219 [.pointer (some (adr (bx t) 0))] w (fun v w'=>∃p c xs,v=.slice p xs.length c∧Go.V.Own w' w.heap.size 173 eWt p c xs∧(o=none→xs=[])∧(∀x,o=some x→∃y,xs=[y]∧Nj x y)∧Ext w w'):=by
 have hb:=hT.box
 have hM:=hT.map
 refine Ac Tryz.func219 Tryz.ntmps219 rfl rfl rfl ?_
 repeat' (first|refine R1 ?_|(refine Q1 ?_;first|(refine Q4 (f:=330) (hc:=RV) ?_;rintro _ w1 ⟨b,rfl,hb0,hB,hx1,hz1⟩;refine Kc ?_;replace hb:=hb.ext (Kx hx1);replace hM:=hM.ext (Kx hx1))|(refine Q4 (f:=329) (hc:=Ox hB hM hT.key) ?_;rintro _ w2 ⟨p,c,rfl,hO,hx2⟩;refine Kc ?_;replace hb:=hb.ext (Kx hx2);replace hM:=hM.ext (Kx hx2))|(refine Q2 (hu:=T.f111_4) ?_)|(refine Q3 (hu:=T.p109) ?_)|(refine Q6 (hu:=T.s61) ?_))|refine R2 ?_|fail)
 cases o with
 | none =>
  refine Zm ?_
  repeat' (first|refine R1 ?_|refine R2 ?_|fail)
  all_goals try (exfalso;simp [IM,ET] at *;done)
  refine Kr Tryz.results219 ?_
  exact ⟨none,0,[],rfl,Go.V.Own.nil _ _ _ _,fun _=>rfl,fun x h=>(by cases h),hx1.trans hx2⟩
 | some x =>
  have hx:=hT.ok x rfl
  have hsl:=hO.sl
  refine Zm ?_
  refine Zn [(0,.pointer (some (adr (bx t) 0))),(3,.slice none ([]:List Wt).length 0),(12,.slice p ([x.key]:List ByteArray).length c),(13,.int .i64 1),(14,.int .i64 0)] ⟨rfl,rfl,rfl,rfl,rfl,trivial⟩ ?_
  repeat' (first|refine R1 ?_|(refine Q1 ?_;first|(refine Q10 T.s61 hsl.ok (q:=0) (hj:=rfl) (h1:=by (simp [IM,ET])) ?_)|(refine Q9 (q:=0) (e:=Ar) (hu:=T.p9) (hs:=hsl) (hq:=(show [x.key][0]?=some x.key from rfl)) ?_)|(refine Q110 Tryz.underlying109 EC T.zero171 rfl rfl (Ui (hT.key _ _ rfl)) hM rfl (t:=109) ?_)|(refine Q2 (hu:=T.f111_4) ?_)|(refine Q3 (hu:=T.p109) ?_))|refine R2 ?_|fail)
  refine Q1 ?_;refine Q7 T.zero171 ?_;intro a6 w3 ha6 hA6 hx3 hs3
  skip
  refine Q1 ?_;refine Q5 T.z171 hA6 ?_;intro w4 hA6 hg4 hs4
  replace hA6:Blk w4.heap a6 171 (AO.enc (x.ver x.stamp)):=hA6
  have hx24:Ext w2 w4:=hx3.own hg4 (fun k hk=>by injection hk;omega)
  repeat' (first|(refine Q1 ?_;first|(refine Q34 T.a169 (hb:=hA6) (hv:=Jy _) ?_)|(refine Q2 (hu:=T.f171_3) ?_))|refine R1 ?_|fail)
  refine Q1 ?_;refine Q4 (hc:=Es (hx.val.rv w4.heap) (by simp) (by simp) (by simp)) ?_;rintro _ w5 ⟨r5,rfl,hr5,_,_,hx5⟩;refine Kc ?_
  obtain ⟨hT5,ht5⟩:=Dk.of_rv hr5 hx.val.size
  replace hA6:=hA6.ext hx5
  repeat' (refine Q1 ?_;(refine Q2 (hu:=T.f171_3) ?_))
  refine Q1 ?_;refine Q5 T.z169 hA6 ?_;intro w6 hA6 hg6 hs6
  replace hA6:Blk w6.heap a6 171 (AO.enc ⟨x.stamp,x.gone,x.exp,r5⟩):=hA6
  have hx26:Ext w2 w6:=(hx24.trans hx5).own hg6 (fun k hk=>by injection hk;omega)
  repeat' (first|refine R1 ?_|(refine Q1 ?_;first|(refine Q11 T.a171 (hb:=hA6) ?_)|(refine Q20 (.agg (eWt.enc (WN x.key ⟨x.stamp,x.gone,x.exp,r5⟩)).toArray) (Rt _ _) (t:=173) ?_))|fail)
  refine Q1 ?_
  refine Q12 eWt (WN x.key ⟨x.stamp,x.gone,x.exp,r5⟩) T.s120 ?_
  intro p7 w7 hp7 hs7 _ hx7 hz7
  have hx07:=((hx1.trans hx2).trans hx26).trans hx7
  have hz07:=hx07.size
  have hnil:Go.V.Own w7 w.heap.size 173 eWt none 0 []:=Go.V.Own.nil _ _ _ _
  repeat' (first|refine R1 ?_|(refine Q1 ?_;(refine Q16 T.s120 hnil hs7 (xs:=[]) (B:=w.heap.size) ?_;intro p8 c8 w8 ha8))|refine R2 ?_|fail)
  refine Zg ?_
  repeat' (first|refine R1 ?_|refine R2 ?_|fail)
  all_goals try (exfalso;omega)
  refine Kr Tryz.results219 ?_
  have hx8:Ext w7 w8:=Ext.of_grown ha8.grown
  exact ⟨p8,c8,[WN x.key ⟨x.stamp,x.gone,x.exp,r5⟩],rfl,ha8.own,fun h=>(by cases h),fun x' h'=>(by
   injection h' with h';subst h'
   exact ⟨_,rfl,rfl,rfl,rfl,ht5,⟨hx.key,hx.gone,hT5,hx.e0,hx.e1⟩⟩),hx07.trans hx8⟩
theorem Ea {w:World} {t m:Nat} {start clock:Int} {ro:Bool} {mp:Nat} {o:Option Wt} (hT:Gg w t m start clock ro mp o) :
  Ctr Tryz.prog 219 [.pointer (some (adr (bx t) 0))] w (fun v w'=>∃p c xs,v=.slice p xs.length c∧Sl w'.heap eWt p c xs∧(o=none→xs=[])∧(∀x,o=some x→∃y,xs=[y]∧Nj x y)∧Ext w w') :=
 (OG hT).mono fun _ _ ⟨p,c,xs,h1,h2,h3⟩=>⟨p,c,xs,h1,h2.sl,h3⟩
def Ff (n:Int) (i:Nat):UInt8:=UInt8.ofNat ((n / 2 ^ (8 * i)) % 256).toNat
def Bh (n:Int):Nat→List UInt8
 | 0=>[]
 | k+1=>Ff n k :: Bh n k
theorem Ci (n:Int):∀k,(Bh n k).length=k
 | 0=>rfl
 | k+1=>by simp [Bh,Ci n k]
theorem LU (n:Int) (i:Nat) (hi:i≤7):IntKind.u8.wrap (n.fdiv (2 ^ min ((8:Int) * i).toNat IntKind.i64.bits))=((Ff n i).toNat:Int):=by
 have e1:min ((8:Int) * i).toNat IntKind.i64.bits=8 * i:=by
  have:IntKind.i64.bits=64:=rfl
  rw [this];omega
 rw [e1,IntKind.wrap_u8,Int.fdiv_eq_ediv_of_nonneg _ (Int.le_of_lt (Int.pow_pos (by omega)))]
 unfold Ff
 have h1:0≤n / 2 ^ (8 * i) % 256:=Int.emod_nonneg _ (by omega)
 have h2:n / 2 ^ (8 * i) % 256<256:=Int.emod_lt_of_pos _ (by omega)
 generalize n / 2 ^ (8 * i) % 256=q at *
 have:(UInt8.ofNat q.toNat).toNat=q.toNat:=by simp;omega
 rw [this];omega
theorem Kv {n:Int} {k:Nat} {B:Nat} {p:Option Addr} {c:Nat} {bs:List UInt8} {w:World} (hk:k≤8) (hB:B≤w.heap.size) (ho:Go.V.Own w B 5 Ai p c bs) (hl:bs.length≤100000000) :
  Ctr Tryz.prog 176 [.slice p bs.length c,.int .i64 n,.int .i64 k] w (fun v w'=>∃p' c',v=.slice p' (bs++Bh n k).length c'∧App w w' B 5 Ai p p' c' (bs++Bh n k)):=by
 refine Ac Tryz.func176 Tryz.ntmps176 rfl rfl rfl ?_
 repeat' (first|refine R1 ?_|refine R2 ?_|fail)
 refine Zh (ι:=Nat × Option Addr × Nat × List UInt8) (fun x=>[(0,.slice x.2.1 x.2.2.2.length x.2.2.1),(1,.int .i64 n),(7,.int .i64 ((x.1:Int) - 1))])
  (fun x w'=>App w w' B 5 Ai p x.2.1 x.2.2.1 x.2.2.2∧x.1≤k∧x.2.2.2.length≤bs.length+(k - x.1)∧x.2.2.2++Bh n x.1=bs++Bh n k) (fun x=>x.1) (k,p,c,bs) ⟨rfl,rfl,rfl,trivial⟩ ⟨App.refl ho hB,Nat.le_refl _,Nat.le_add_right _ _,rfl⟩ ?_
 rintro ⟨j,q,d,cs⟩ w1 ⟨ha,hj,hcl,he⟩
 simp only at ha hj hcl he
 by_cases hz:j=0
 ·subst hz
  repeat' (first|refine R1 ?_|refine R2 ?_|fail)
  refine Kr Tryz.results176 ?_
  have e0:cs=bs++Bh n k:=by simpa [Bh] using he
  subst e0
  exact ⟨q,d,rfl,ha⟩
 ·obtain ⟨i,rfl⟩:∃i,j=i+1:=⟨j - 1,by omega⟩
  refine Zn [(0,.slice q cs.length d),(1,.int .i64 n),(7,.int .i64 (i:Int))] ⟨rfl,rfl,by show some _=some _;congr 2;omega,trivial⟩ ?_
  repeat' (first|refine R1 ?_|(refine Q1 ?_;first|(refine Q26 T.i3 T.i5 (hv:=LU n i (by omega)) ?_)|(refine Q56 (h0:=by omega) ?_))|refine R2 ?_|fail)
  refine Q1 ?_
  refine Q12 Ai (Ff n i) T.s40 ?_
  intro p2 w2 hp2 hs2 _ hx2 hz2
  have ha2:=ha.ext hx2
  repeat' (first|refine R1 ?_|(refine Q1 ?_;(refine Q16 T.s40 ha2.own hs2 (hB:=ha2.base) (hlen:=by (simp;omega)) (hmax:=by (simp;omega)) ?_;intro p3 c3 w3 ha3))|refine R2 ?_|fail)
  have ha4:=ha2.trans ha3
  refine Zc (i,p3,c3,cs++[Ff n i]) ⟨rfl,rfl,rfl,trivial⟩ ⟨ha4,by simp only;omega,by simp;omega,?_⟩ (by simp)
  rw [← he];simp [Bh]
theorem MQ {s:ByteArray} {B:Nat} {p:Option Addr} {c:Nat} {bs:List UInt8} {w:World} (hB:B≤w.heap.size) (ho:Go.V.Own w B 5 Ai p c bs) (hl:bs.length≤90000000) (hs:s.size≤1000000) :
  Ctr Tryz.prog 175 [.slice p bs.length c,.string s] w (fun v w'=>∃p' c',v=.slice p' (bs++(Bh s.size 2++s.data.toList)).length c'∧App w w' B 5 Ai p p' c' (bs++(Bh s.size 2++s.data.toList))):=by
 refine Ac Tryz.func175 Tryz.ntmps175 rfl rfl rfl ?_
 repeat' (first|refine R1 ?_|(refine Q1 ?_;refine Q17 T.str9 ?_)|fail)
 refine Q1 ?_;refine Q4 (hc:=Kv (k:=2) (by omega) hB ho (by omega)) ?_;rintro _ w1 ⟨q,d,rfl,ha⟩;refine Kc ?_
 have e1:(bs++Bh s.size 2).length=bs.length+2:=by rw [List.length_append,Ci]
 repeat' (first|refine R1 ?_|(refine Q1 ?_;(refine Q43 T.s40 T.str9 ha.own ha.base (hlen:=by (rw [e1];omega)) (hmax:=by (rw [e1];omega)) ?_;intro p3 c3 w3 ha3))|refine R2 ?_|fail)
 refine Kr Tryz.results175 ?_
 rw [← List.append_assoc]
 exact ⟨p3,c3,rfl,ha.trans ha3⟩
end Go.Proofs.YtkcolpfanmdmiaaGreatDoor
