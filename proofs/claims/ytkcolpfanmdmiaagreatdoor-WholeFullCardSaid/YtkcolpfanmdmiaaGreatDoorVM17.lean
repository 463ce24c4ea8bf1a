/- Texts of this proof laid together. -/
import Derived.Test.YtkcolpfanmdmiaaGreatDoorVM10
import Derived.Test.YtkcolpfanmdmiaaGreatDoorVM11
import Derived.Test.YtkcolpfanmdmiaaGreatDoorVM12
import Derived.Test.YtkcolpfanmdmiaaGreatDoorVM13
import Derived.Test.YtkcolpfanmdmiaaGreatDoorVM14
import Derived.Test.YtkcolpfanmdmiaaGreatDoorVM15
import Derived.Test.YtkcolpfanmdmiaaGreatDoorVM16
import Derived.Maps.OwnSet
import Derived.StringKeys
import Derived.Maps.Range
import Derived.Defers
import Derived.Recover
import Derived.RangeFuncRecord
import Derived.RangeFuncLeaves
import Derived.RangeFuncSeq
import Derived.RangeFuncOwn
import Derived.OwnWalkIn
import Derived.OrdersIn
import Derived.Sort.OwnSorted
import Derived.Lib.OthersKept
import Derived.Scope
import Derived.Laws.Externs
import Derived.Shelf.Strings.IndexAnyAll
import Derived.Lib.SlBytesConst
import Derived.Shelf.Spec.DecodeRune
import Derived.Lib.BytesEntry
set_option maxHeartbeats 8000000
open Go Go.V
variable {af : Array Edge} {ops : Array Oper} {cap : Array Value} {s' : ByteArray} {has : ByteArray → Prop} {E : Env} {K : Env → World → Prop} {Q : Exit → Act → World → Prop} {i j : Int} {k' : IntKind} {bs : List UInt8} {f : Lit → Option Value} {B b by_ c cnt dq e et k kt m r sz t : Nat} {dr : Nat × List Nat} {x y z : Operand} {o : Option (ByteArray × Value)} {g : Option (Nat × Bool)} {p q : Option Addr} {d ro : Option Nat} {P : Program} {pos : String} {t' u : TypeId} {v v' zv : Value} {w w' w0 : World}
namespace Go.V
structure Val where
 kind:Int
 text:ByteArray
 ps:List (ByteArray × ByteArray)
 ts:List ByteArray
 zs:List (Int × ByteArray)
structure CO where
 kind:Int
 text:ByteArray
 p1:Option Addr
 n1:Nat
 c1:Nat
 p2:Option Addr
 n2:Nat
 c2:Nat
 p3:Option Addr
 n3:Nat
 c3:Nat
def Dl:Enc CO:=⟨5,fun r=>[.int .i64 r.kind,.string r.text,.slice r.p1 r.n1 r.c1,.slice r.p2 r.n2 r.c2,.slice r.p3 r.n3 r.c3],fun _=>rfl,
 fun _ v hv=>by simp at hv;rcases hv with rfl|rfl|rfl|rfl|rfl <;> rfl,by decide⟩
structure Rv (H:Array Obj) (r:CO) (v:Val):Prop where
 kind:r.kind=v.kind
 text:r.text=v.text
 n1:r.n1=v.ps.length
 n2:r.n2=v.ts.length
 n3:r.n3=v.zs.length
 s1:Sl H JP r.p1 r.c1 v.ps
 s2:Sl H Ar r.p2 r.c2 v.ts
 s3:Sl H Ph r.p3 r.c3 v.zs
theorem Rv.ext {w w':World} {r:CO} {v:Val} (h:Rv w.heap r v) (hx:Ext w w'):Rv w'.heap r v:=⟨h.kind,h.text,h.n1,h.n2,h.n3,h.s1.ext hx,h.s2.ext hx,h.s3.ext hx⟩
theorem Rv.enc {H:Array Obj} {r:CO} {v:Val} (h:Rv H r v):Dl.enc r=[.int .i64 v.kind,.string v.text,.slice r.p1 v.ps.length r.c1,.slice r.p2 v.ts.length r.c2,.slice r.p3 v.zs.length r.c3]:=by
 simp [Dl,h.kind,h.text,h.n1,h.n2,h.n3]
def Bf (ps:List (ByteArray × ByteArray)) (i:Nat):Prop:=∀x,ps[i]?=some x→x.1.size≤4096∧x.2.size≤4096∧(0<i→∀y,ps[i - 1]?=some y→blt y.1 x.1=true)
def okP (ps:List (ByteArray × ByteArray)):Prop:=ps.length≤512∧∀i,i<ps.length→Bf ps i
def stepL (ts:List ByteArray) (i:Nat):Prop:=∀x,ts[i]?=some x→x.size≤4096
def okL (ts:List ByteArray):Prop:=ts.length≤512∧∀i,i<ts.length→stepL ts i
def stepS (ts:List ByteArray) (i:Nat):Prop:=∀x,ts[i]?=some x→x.size≤4096∧(0<i→∀y,ts[i - 1]?=some y→blt y x=true)
def okS (ts:List ByteArray):Prop:=ts.length≤512∧∀i,i<ts.length→stepS ts i
def before (a b:Int × ByteArray):Prop:=a.1<b.1∨a.1=b.1∧blt a.2 b.2=true
def stepZ (zs:List (Int × ByteArray)) (i:Nat):Prop:=∀x,zs[i]?=some x→x.2.size≤4096∧(0<i→∀y,zs[i - 1]?=some y→before y x)∧∀j y,j<i→zs[j]?=some y→y.2≠x.2
def okZ (zs:List (Int × ByteArray)):Prop:=zs.length≤512∧∀i,i<zs.length→stepZ zs i
structure GR (v:Val):Prop where
 kind:1≤v.kind∧v.kind≤5
 text:v.kind≠1→v.text=⟨#[]⟩
 ps:v.kind≠2→v.ps=[]
 ts:v.kind≠3→v.kind≠4→v.ts=[]
 zs:v.kind≠5→v.zs=[]
 str:v.kind=1→v.text.size≤4096
 hash:v.kind=2→v.ps≠[]∧okP v.ps
 list:v.kind=3→v.ts≠[]∧okL v.ts
 set:v.kind=4→v.ts≠[]∧okS v.ts
 zset:v.kind=5→v.zs≠[]∧okZ v.zs
theorem MX {s:ByteArray} {ps:List (ByteArray × ByteArray)} {ts:List ByteArray} {zs:List (Int × ByteArray)}:GR ⟨1,s,ps,ts,zs⟩ ↔ s.size≤4096∧ps.length=0∧ts.length=0∧zs.length=0:=by
 have e0:∀{α:Type} {l:List α},l.length=0 ↔ l=[]:=List.length_eq_zero_iff
 have e1:∀{α:Type} {l:List α},0<l.length ↔ l≠[]:=List.length_pos_iff
 rw [e0,e0,e0]
 constructor
 ·intro h
  have:=h.text;have:=h.ps;have:=h.ts;have:=h.zs;have:=h.str;have:=h.hash;have:=h.list;have:=h.set;have:=h.zset
  simp_all
 ·intro h
  constructor <;> simp_all
structure Fits (v:Val):Prop where
 kind:-9223372036854775808≤v.kind∧v.kind≤9223372036854775807
 text:v.text.size≤maxLen
 ps:∀x∈v.ps,x.1.size≤maxLen∧x.2.size≤maxLen
 ts:∀x∈v.ts,x.size≤maxLen
 zs:∀x∈v.zs,(-9223372036854775808≤x.1∧x.1≤9223372036854775807)∧x.2.size≤maxLen
theorem Tq {Q:Nat→Prop} {k:Nat} (h:∀i,i<k→Q i) (hk:Q k):∀i,i<k+1→Q i:=fun i hi=>by
 rcases Nat.lt_or_ge i k with h1|h1
 ·exact h i h1
 ·have:i=k:=by omega
  rw [this];exact hk
open Go.RowKit
def CR (P:Program) (w:World) (k e b:Nat) (has:ByteArray→Prop) (n m:Nat):Prop :=
 ∃D:DataW Unit,w.ownsMap P k (plainElem P e) b m D∧Maps.size D=n∧∀s:ByteArray,s.size≤maxLen→(Maps.has D (.string s.data.toList)=true ↔ has s)
variable {n : Nat}
theorem CR.lt (h:CR P w k e b has n m):b<w.heap.size:=by
 obtain ⟨D,h1,_⟩:=h;exact h1.lt
theorem CR.kept (h:CR P w k e b has n m) {row:Option Nat} (hg:w.grownBy w' row) (hne:row≠some b):CR P w' k e b has n m:=by
 obtain ⟨D,h1,h2⟩:=h;exact ⟨D,h1.kept hg (fun e=>hne e.symm),h2⟩
theorem CR.ext (h:CR P w k e b has n m) (hx:Ext w w'):CR P w' k e b has n m:=h.kept (hx.grown none) (by simp)
theorem CR.made (w:World) (P:Program) (k e:Nat):CR P (w.alloc (.map #[] 0)) k e w.heap.size (fun _=>False) 0 0 :=
 ⟨.map [],World.ownsMap_made w P k _,rfl,fun s _=>by simp [Maps.has]⟩
theorem CR.put (h:CR P w k e b has n m) (hk:P.underlying k=some .string) {v:Value} {d:DataW Unit} (hv:plainElem P e v=some (d,[])) (ht:P.underlying t=some (.map k e)) (hm:m<maxLen) {s:ByteArray} (hs:s.size≤maxLen) :
  ∃w' n',(Instr.mapUpdate t (.map (some b)) (.string s) v).run P w=.ok () w'∧CR P w' k e b (fun u=>u=s∨has u) n' (m+1)∧w.grownBy w' (some b)∧(has s→n'=n)∧(¬has s→n'=n+1):=by
 obtain ⟨D,h1,h2,h3⟩:=h
 have K:=Maps.string_keyed hk
 have hkey:=Go.WideMaps.keyOf_string_mk (P:=P) (k:=k) hk hs
 obtain ⟨w',hr,ho,hg⟩:=h1.update K ht hm hkey hv
 have hlit:=K.key hkey
 have htidy:=h1.tidy K
 have hmap:=h1.isMap
 refine ⟨w',Maps.size (D.put (.string s.data.toList) d),hr,⟨_,ho,rfl,fun u hu=>?_⟩,hg,fun hh=>?_,fun hh=>?_⟩
 ·by_cases e':u=s
  ·subst e';simp [Maps.has_put_same hmap hlit]
  ·have hne:(Lit.string u.data.toList)≠.string s.data.toList:=by
    intro e2;injection e2 with e2
    exact e' (by cases u;cases s;simp_all)
   rw [Maps.has_put_other hne,h3 u hu]
   simp [e']
 all_goals
  obtain ⟨es,rfl,hp⟩:=htidy
  have hst:=Maps.length_strike (k:=.string s.data.toList) es hp
  have hsz:Maps.size ((DataW.map es).put (.string s.data.toList) d)=(es.filter fun p=>!p.1.sameKey (.string s.data.toList)).length+1:=by
   show (DataW.insert _ _).length=_
   rw [length_insert]
  rw [hsz]
  have hz:es.length=n:=h2
  have hq:=h3 s hs
  simp only [Maps.has] at hq
 ·rw [if_pos (hq.2 hh)] at hst;omega
 ·rw [if_neg (fun e2=>hh (hq.1 e2))] at hst;omega
variable {l : List Oper}
variable {ty : TypeId} {k : IntKind}
attribute [irreducible] CR
def Ir (v:Value):Option (DataW Value × List MemPlace):=some (.held v,[])
def Dw (P:Program) (w:World) (k b:Nat) (f:Lit→Option Value) (m:Nat):Prop :=
 ∃D:DataW Value,w.ownsMap P k Ir b m D∧∀kl,Maps.has D kl=(f kl).isSome∧∀v,f kl=some v→∀zd,D.atKey kl zd=.held v
open Classical in
noncomputable def MR (f:Lit→Option Value) (s:Lit) (v:Value):Lit→Option Value:=fun u=>if u=s then some v else f u
theorem Ht (f:Lit→Option Value) (s:Lit) (v:Value):MR f s v s=some v:=if_pos rfl
theorem Kw (f:Lit→Option Value) {s u:Lit} (v:Value) (h:u≠s):MR f s v u=f u:=if_neg h
variable {k : Nat}
theorem Dw.lt (h:Dw P w k b f m):b<w.heap.size:=by
 obtain ⟨D,h1,_⟩:=h;exact h1.lt
theorem Dw.kept (h:Dw P w k b f m) {row:Option Nat} (hg:w.grownBy w' row) (hne:row≠some b):Dw P w' k b f m:=by
 obtain ⟨D,h1,h2⟩:=h;exact ⟨D,h1.kept hg (fun e=>hne e.symm),h2⟩
theorem Dw.ext (h:Dw P w k b f m) (hx:Ext w w'):Dw P w' k b f m:=h.kept (hx.grown none) (by simp)
theorem Dw.made (w:World) (P:Program) (k:Nat):Dw P (w.alloc (.map #[] 0)) k w.heap.size (fun _=>none) 0 :=
 ⟨.map [],World.ownsMap_made w P k _,fun s=>⟨by simp [Maps.has],fun c hc=>by cases hc⟩⟩
theorem Dw.put (h:Dw P w k b f m) (K:Maps.Keyed P k) (ht:P.underlying t=some (.map k e)) (hm:m<maxLen) {key:Value} {kl:Lit} (hkey:keyOf P k key=some kl) (v:Value) :
  ∃w',(Instr.mapUpdate t (.map (some b)) key v).run P w=.ok () w'∧Dw P w' k b (MR f kl v) (m+1)∧w.grownBy w' (some b):=by
 obtain ⟨D,h1,h2⟩:=h
 obtain ⟨w',hr,ho,hg⟩:=h1.update K ht hm hkey (show Ir v=some (.held v,[]) from rfl)
 have hlit:=K.key hkey
 have hmap:=h1.isMap
 refine ⟨w',hr,⟨_,ho,fun u=>?_⟩,hg⟩
 unfold MR
 by_cases e':u=kl
 ·subst e'
  rw [if_pos rfl]
  refine ⟨by simp [Maps.has_put_same hmap hlit],fun c' hc' zd=>?_⟩
  injection hc' with hc'
  rw [← hc']
  exact Maps.atKey_put_same hmap hlit _ _
 ·rw [if_neg e',Maps.has_put_other e']
  refine ⟨(h2 u).1,fun c' hc' zd=>?_⟩
  rw [Maps.atKey_put_other e']
  exact (h2 u).2 c' hc' zd
theorem Dw.at_ {D:DataW Value} (h2:∀kl,Maps.has D kl=(f kl).isSome∧∀v,f kl=some v→∀zd,D.atKey kl zd=.held v) {kl:Lit} {v z:Value} (h:D.atKey kl (.held z)=.held v):v=(f kl).getD z:=by
 cases hf:f kl with
 | some c0 =>
  have:=(h2 kl).2 c0 hf (.held z)
  rw [this] at h
  injection h with h
  exact h.symm
 | none =>
  have hno:Maps.has D kl=false:=by rw [(h2 kl).1,hf];rfl
  rw [Maps.atKey_of_not_has hno] at h
  injection h with h
  exact h.symm
theorem Dw.look (h:Dw P w k b f m) (K:Maps.Keyed P k) (ht:P.underlying t=some (.map k e)) {z:Value} (hz:Ag P e z) {key:Value} {kl:Lit} (hkey:keyOf P k key=some kl) :
  (Instr.lookup t (.map (some b)) key false).run P w=.ok ((f kl).getD z) w∧(Instr.lookup t (.map (some b)) key true).run P w=.ok (.tuple #[(f kl).getD z,.bool (f kl).isSome]) w:=by
 obtain ⟨D,h1,h2⟩:=h
 constructor
 ·obtain ⟨v,ps,hrun,hv⟩:=h1.lookup K ht (CW hz w) (show Ir z=some (.held z,[]) from rfl) hkey
  injection hv with hv;injection hv with hv _
  rw [hrun,Dw.at_ h2 hv.symm]
 ·obtain ⟨v,ps,hrun,hv⟩:=h1.look_ok K ht (CW hz w) (show Ir z=some (.held z,[]) from rfl) hkey
  injection hv with hv;injection hv with hv _
  rw [hrun,Dw.at_ h2 hv.symm,(h2 kl).1]
def CX (P:Program) (w:World) (k b r:Nat) (f:Lit→Option Value) (left:Lit→Bool) (cnt m:Nat):Prop :=
 ∃D:DataW Value,w.ranges P k Ir b r m D left cnt∧∀kl,Maps.has D kl=(f kl).isSome∧∀v,f kl=some v→∀zd,D.atKey kl zd=.held v
theorem CX.kept {left:Lit→Bool} {cnt r:Nat} (h:CX P w k b r f left cnt m) {row:Option Nat} (hg:w.grownBy w' row) (hb:row≠some b) (hr:row≠some r):CX P w' k b r f left cnt m:=by
 obtain ⟨D,h1,h2⟩:=h;exact ⟨D,h1.kept hg (fun e=>hb e.symm) (fun e=>hr e.symm),h2⟩
theorem CX.ext {left:Lit→Bool} {cnt r:Nat} (h:CX P w k b r f left cnt m) (hx:Ext w w'):CX P w' k b r f left cnt m:=h.kept (hx.grown none) (by simp) (by simp)
theorem CX.lt {left:Lit→Bool} {cnt r:Nat} (h:CX P w k b r f left cnt m):b<w.heap.size∧r<w.heap.size:=by
 obtain ⟨D,h1,h2⟩:=h;exact ⟨h1.owns.lt,h1.lt⟩
theorem Dw.range (h:Dw P w k b f m) (K:Maps.Keyed P k) (ht:P.underlying t=some (.map k e)) :
  ∃w' cnt,(Instr.range t (.map (some b))).run P w=.ok (.pointer (some ⟨w.heap.size,0,none⟩)) w'∧CX P w' k b w.heap.size f (fun s=>(f s).isSome) cnt m∧Ext w w'∧w'.heap.size=w.heap.size+1:=by
 obtain ⟨D,h1,h2⟩:=h
 obtain ⟨w',hr,ho,hg,hz⟩:=h1.range K ht
 have e1:(Maps.has D)=(fun s=>(f s).isSome):=by funext s;exact (h2 s).1
 rw [e1] at ho
 exact ⟨w',_,hr,⟨D,ho,h2⟩,Ext.of_grown hg,hz⟩
theorem CX.next {left:Lit→Bool} {cnt r:Nat} (h:CX P w k b r f left cnt m) (K:Maps.Keyed P k) (ty:TypeId) :
  ((∀kl,left kl=false)∧(Instr.next (.pointer (some ⟨r,0,none⟩)) false ty).run P w=.ok (.tuple #[.bool false]) w) ∨
  ∃key kl v w' cnt',keyOf P k key=some kl∧left kl=true∧f kl=some v∧(Instr.next (.pointer (some ⟨r,0,none⟩)) false ty).run P w=.ok (.tuple #[.bool true,key,v]) w' ∧
   CX P w' k b r f (fun u=>left u && !u.sameKey kl) cnt' m∧cnt'<cnt∧w.grownBy w' (some r)∧w'.heap.size=w.heap.size∧(Instr.entry (.pointer (some ⟨r,0,none⟩))).run P w'=.ok (.tuple #[key,v]) w':=by
 obtain ⟨D,h1,h2⟩:=h
 rcases h1.next K ty with ⟨_,g2,g3⟩|⟨key,v,kl,y,w',cnt',g1,g2,g3,g4,g5,g6,g7,g8,g9,g10⟩
 ·exact .inl ⟨g2,g3⟩
 ·have g3':y=(.held v,[]):=by
   have:some y=some (.held v,[]):=g3.symm
   injection this
  subst g3'
  have hfc:f kl=some v:=by
   have hhas:Maps.has D kl=true:=by
    cases hh:Maps.has D kl with
    | true=>rfl
    | false =>
     have e1:=g4 .nil
     rw [Maps.atKey_of_not_has hh] at e1
     cases e1
   obtain ⟨c0,hc0⟩:=Option.isSome_iff_exists.1 ((h2 kl).1.symm.trans hhas)
   have e2:=(h2 kl).2 c0 hc0 .nil
   rw [g4 .nil] at e2
   injection e2 with e2
   rw [hc0,e2]
  exact .inr ⟨key,kl,v,w',cnt',g1,g2,hfc,g5,⟨D,g6,h2⟩,g7,g8,g9,g10⟩
variable {key : Value} {kl : Lit}
theorem Zbb (ht:P.underlying t=some (.map kt et)) (Kk:Maps.Keyed P kt) (hz:Ag P et zv) (hx:E.look x=some (.map (some b))) (hy:E.look y=some key) (hkey:keyOf P kt key=some kl)
  (ho:Dw P w kt b f m) (hd:Ah n d=true) (h:G P n ops (dq,[]) l (E.put d ((f kl).getD zv)) w K):G1 P n ops (dq,[]) ⟨d,.lookup t x y false,ty,pos,af,g⟩ l E w K :=
 Zd _ hd (fun a ha w' hw=>by
  have hx':=ho.ext (Ej hw (by simp [Bi]))
  have:=(hx'.look Kk ht hz hkey).1
  simp [execOp,ha.eval hx,ha.eval hy,this]) h
theorem ZaY (ht:P.underlying t=some (.map kt et)) (Kk:Maps.Keyed P kt) (hz:Ag P et zv) (hx:E.look x=some (.map (some b))) (hy:E.look y=some key) (hkey:keyOf P kt key=some kl)
  (ho:Dw P w kt b f m) (hd:Ah n d=true) (h:G P n ops (dq,[]) l (E.put d (.tuple #[(f kl).getD zv,.bool (f kl).isSome])) w K):G1 P n ops (dq,[]) ⟨d,.lookup t x y true,ty,pos,af,g⟩ l E w K :=
 Zd _ hd (fun a ha w' hw=>by
  have hx':=ho.ext (Ej hw (by simp [Bi]))
  have:=(hx'.look Kk ht hz hkey).2
  simp [execOp,ha.eval hx,ha.eval hy,this]) h
theorem Q86 (ht:P.underlying t=some (.map kt et)) (Kk:Maps.Keyed P kt) (ho:Dw P w kt b f m) (h:∀w' cnt,CX P w' kt b w.heap.size f (fun s=>(f s).isSome) cnt m→Ext w w'→w'.heap.size=w.heap.size+1→G P n ops dr l (E.put d (.pointer (some ⟨w.heap.size,0,none⟩))) w' K) (hx:E.look x=some (.map (some b)):=by exact rfl) (he:Am P dr.1 ⟨d,.range t x,ty,pos,af,g⟩=true:=by exact rfl) (hd:Ah n d=true:=by exact rfl):G1 P n ops dr ⟨d,.range t x,ty,pos,af,g⟩ l E w K:=by
 obtain ⟨w',cnt,hr,h1,h2,h3⟩:=ho.range Kk ht
 exact Zs _ w' he hd (fun a ha=>by simp [execOp,ha.eval hx,hr]) (.inr h2.toS) (h w' cnt h1 h2 h3)
theorem Zae {left:Lit→Bool} {cnt:Nat} (Kk:Maps.Keyed P kt) (hx:E.look x=some (.pointer (some ⟨r,0,none⟩))) (ho:CX P w kt b r f left cnt m)
  (he:Am P dr.1 ⟨d,.next x false,ty,pos,af,g⟩=true) (hw:writes dr.1 ⟨d,.next x false,ty,pos,af,g⟩=true) (hd:Ah n d=true)
  (h0:(∀kl,left kl=false)→G P n ops dr l (E.put d (.tuple #[.bool false])) w K)
  (h1:∀(key:Value) (kl:Lit) (v:Value) (w':World) (cnt':Nat),keyOf P kt key=some kl→left kl=true→f kl=some v→CX P w' kt b r f (fun u=>left u && !u.sameKey kl) cnt' m→cnt'<cnt→w.grownBy w' (some r)→w'.heap.size=w.heap.size →
   (Instr.entry (.pointer (some ⟨r,0,none⟩))).run P w'=.ok (.tuple #[key,v]) w'→G P n ops dr l (E.put d (.tuple #[.bool true,key,v])) w' K) :
  G1 P n ops dr ⟨d,.next x false,ty,pos,af,g⟩ l E w K:=by
 rcases ho.next Kk ty with ⟨g1,g2⟩|⟨key,kl,v,w',cnt',g1,g2,g3,g5,g6,g7,g8,g9,g10⟩
 ·exact Zs _ w he hd (fun a ha=>by simp [execOp,ha.eval hx,g2]) (.inr Bd.rfl') (h0 g1)
 ·exact Zs _ w' he hd (fun a ha=>by simp [execOp,ha.eval hx,g5]) (.inl hw) (h1 key kl v w' cnt' g1 g2 g3 g6 g7 g8 g9 g10)
theorem Q72 {v:Value} (hr:(Instr.entry (.pointer (some ⟨r,0,none⟩))).run P w=.ok v w) (h:G P n ops dr l (E.put d v) w K) (hx:E.look x=some (.pointer (some ⟨r,0,none⟩)):=by exact rfl) (he:Am P dr.1 ⟨d,.entry x,ty,pos,af,g⟩=true:=by exact rfl) (hd:Ah n d=true:=by exact rfl):G1 P n ops dr ⟨d,.entry x,ty,pos,af,g⟩ l E w K :=
 Zs _ w he hd (fun a ha=>by simp [execOp,ha.eval hx,hr]) (.inr Bd.rfl') h
abbrev Cm (s:ByteArray):Lit:=.string s.data.toList
theorem GH {u s:ByteArray} (h:u≠s):Cm u≠Cm s:=by
 intro e2;injection e2 with e2
 exact h (by cases u;cases s;simp_all)
def Qn (D:DataW Unit) (f:ByteArray→Option Int):Prop:=∀s:ByteArray,s.size≤maxLen→(Maps.has D (Cm s)=true ↔ (f s).isSome=true)∧∀c,f s=some c→∀zd,D.atKey (Cm s) zd=.lit (.int .i64 c)
def DF (P:Program) (w:World) (k e b:Nat) (f:ByteArray→Option Int) (n m:Nat):Prop :=
 ∃D:DataW Unit,w.ownsMap P k (plainElem P e) b m D∧Maps.size D=n∧Qn D f
def putF (f:ByteArray→Option Int) (s:ByteArray) (c:Int):ByteArray→Option Int:=fun u=>if u=s then some c else f u
variable {f : ByteArray → Option Int}
theorem DF.lt (h:DF P w k e b f n m):b<w.heap.size:=by
 obtain ⟨D,h1,_⟩:=h;exact h1.lt
theorem DF.kept (h:DF P w k e b f n m) {row:Option Nat} (hg:w.grownBy w' row) (hne:row≠some b):DF P w' k e b f n m:=by
 obtain ⟨D,h1,h2⟩:=h;exact ⟨D,h1.kept hg (fun e=>hne e.symm),h2⟩
theorem DF.ext (h:DF P w k e b f n m) (hx:Ext w w'):DF P w' k e b f n m:=h.kept (hx.grown none) (by simp)
theorem DF.made (w:World) (P:Program) (k e:Nat):DF P (w.alloc (.map #[] 0)) k e w.heap.size (fun _=>none) 0 0 :=
 ⟨.map [],World.ownsMap_made w P k _,rfl,fun s _=>⟨by simp [Maps.has],fun c hc=>by cases hc⟩⟩
theorem DF.put (h:DF P w k e b f n m) (hk:P.underlying k=some .string) (he:P.underlying e=some (.int .i64)) (ht:P.underlying t=some (.map k e)) (hm:m<maxLen) {s:ByteArray} {c:Int} (hs:s.size≤maxLen) (hc:-9223372036854775808≤c∧c≤9223372036854775807) :
  ∃w',(Instr.mapUpdate t (.map (some b)) (.string s) (.int .i64 c)).run P w=.ok () w'∧DF P w' k e b (putF f s c) (if (f s).isSome=true then n else n+1) (m+1)∧w.grownBy w' (some b):=by
 obtain ⟨D,h1,h2,h3⟩:=h
 have K:=Maps.string_keyed hk
 have hkey:=Go.WideMaps.keyOf_string_mk (P:=P) (k:=k) hk hs
 have hwf:(Lit.int .i64 c).wf=true:=by simpa [Lit.wf,IntKind.min,IntKind.max,IntKind.bits,IntKind.signed] using hc
 obtain ⟨w',hr,ho,hg⟩:=h1.update K ht hm hkey (plainElem_int he hwf)
 have hlit:=K.key hkey
 have htidy:=h1.tidy K
 have hmap:=h1.isMap
 refine ⟨w',hr,⟨_,ho,?_,fun u hu=>?_⟩,hg⟩
 ·obtain ⟨es,rfl,hp⟩:=htidy
  have hst:=Maps.length_strike (k:=Cm s) es hp
  have hsz:Maps.size ((DataW.map es).put (Cm s) (.lit (.int .i64 c)))=(es.filter fun p=>!p.1.sameKey (Cm s)).length+1:=by
   show (DataW.insert _ _).length=_
   rw [length_insert]
  rw [hsz]
  have hz:es.length=n:=h2
  have hq:=(h3 s hs).1
  simp only [Maps.has] at hq
  by_cases hf:(f s).isSome=true
  ·rw [if_pos (hq.2 hf)] at hst;rw [if_pos hf];omega
  ·rw [if_neg (fun e2=>hf (hq.1 e2))] at hst;rw [if_neg hf];omega
 ·unfold putF
  by_cases e':u=s
  ·subst e'
   rw [if_pos rfl]
   refine ⟨by simp [Maps.has_put_same hmap hlit],fun c' hc' zd=>?_⟩
   injection hc' with hc'
   rw [← hc']
   exact Maps.atKey_put_same hmap hlit _ _
  ·rw [if_neg e']
   have hne:=GH e'
   rw [Maps.has_put_other hne]
   refine ⟨(h3 u hu).1,fun c' hc' zd=>?_⟩
   rw [Maps.atKey_put_other hne]
   exact (h3 u hu).2 c' hc' zd
theorem DF.look (h:DF P w k e b f n m) (hk:P.underlying k=some .string) (he:P.underlying e=some (.int .i64)) (ht:P.underlying t=some (.map k e)) (hz:Ag P e (.int .i64 0)) {s:ByteArray} (hs:s.size≤maxLen) :
  (Instr.lookup t (.map (some b)) (.string s) false).run P w=.ok (.int .i64 ((f s).getD 0)) w∧(Instr.lookup t (.map (some b)) (.string s) true).run P w=.ok (.tuple #[.int .i64 ((f s).getD 0),.bool (f s).isSome]) w:=by
 obtain ⟨D,h1,h2,h3⟩:=h
 have K:=Maps.string_keyed hk
 have hkey:=Go.WideMaps.keyOf_string_mk (P:=P) (k:=k) hk hs
 have hw0:(Lit.int .i64 0).wf=true:=by decide
 have hat:∀c,D.atKey (Cm s) (.lit (.int .i64 0))=.lit (.int .i64 c)→c=(f s).getD 0:=fun c hc=>by
  cases hf:f s with
  | some c0 =>
   have:=(h3 s hs).2 c0 hf (.lit (.int .i64 0))
   rw [this] at hc
   injection hc with hc;injection hc with _ hc
   exact hc.symm
  | none =>
   have hno:Maps.has D (Cm s)=false:=by
    cases hh:Maps.has D (Cm s) with
    | false=>rfl
    | true=>have:=(h3 s hs).1.1 hh;rw [hf] at this;cases this
   rw [Maps.atKey_of_not_has hno] at hc
   injection hc with hc;injection hc with _ hc
   exact hc.symm
 have hhas:Maps.has D (Cm s)=(f s).isSome:=by rw [Bool.eq_iff_iff];exact (h3 s hs).1
 constructor
 ·obtain ⟨v,ps,hrun,hv⟩:=h1.lookup K ht (CW hz w) (plainElem_int he hw0) hkey
  obtain ⟨c,rfl,hc,hwc⟩:=plainElem_int_inv he hv
  injection hc with hc _
  rw [hrun,hat c hc]
 ·obtain ⟨v,ps,hrun,hv⟩:=h1.look_ok K ht (CW hz w) (plainElem_int he hw0) hkey
  obtain ⟨c,rfl,hc,hwc⟩:=plainElem_int_inv he hv
  injection hc with hc _
  rw [hrun,hat c hc,hhas]
def IK (P:Program) (w:World) (k e b r:Nat) (f:ByteArray→Option Int) (left:ByteArray→Bool) (cnt n m:Nat):Prop :=
 ∃(D:DataW Unit) (lf:Lit→Bool),w.ranges P k (plainElem P e) b r m D lf cnt∧Maps.size D=n∧Qn D f∧∀s:ByteArray,s.size≤maxLen→lf (Cm s)=left s
theorem IK.kept {left:ByteArray→Bool} {cnt r:Nat} (h:IK P w k e b r f left cnt n m) {row:Option Nat} (hg:w.grownBy w' row) (hb:row≠some b) (hr:row≠some r):IK P w' k e b r f left cnt n m:=by
 obtain ⟨D,lf,h1,h2⟩:=h;exact ⟨D,lf,h1.kept hg (fun e=>hb e.symm) (fun e=>hr e.symm),h2⟩
theorem IK.ext {left:ByteArray→Bool} {cnt r:Nat} (h:IK P w k e b r f left cnt n m) (hx:Ext w w'):IK P w' k e b r f left cnt n m:=h.kept (hx.grown none) (by simp) (by simp)
theorem IK.lt {left:ByteArray→Bool} {cnt r:Nat} (h:IK P w k e b r f left cnt n m):b<w.heap.size∧r<w.heap.size:=by
 obtain ⟨D,lf,h1,h2⟩:=h;exact ⟨h1.owns.lt,h1.lt⟩
theorem DF.range (h:DF P w k e b f n m) (hk:P.underlying k=some .string) (ht:P.underlying t=some (.map k e)) :
  ∃w',(Instr.range t (.map (some b))).run P w=.ok (.pointer (some ⟨w.heap.size,0,none⟩)) w'∧IK P w' k e b w.heap.size f (fun s=>(f s).isSome) n n m∧Ext w w'∧w'.heap.size=w.heap.size+1:=by
 obtain ⟨D,h1,h2,h3⟩:=h
 obtain ⟨w',hr,ho,hg,hz⟩:=h1.range (Maps.string_keyed hk) ht
 exact ⟨w',hr,⟨D,_,by rw [h2] at ho;exact ho,h2,h3,fun s hs=>by rw [Bool.eq_iff_iff];exact (h3 s hs).1⟩,Ext.of_grown hg,hz⟩
theorem IK.next {left:ByteArray→Bool} {cnt r:Nat} (h:IK P w k e b r f left cnt n m) (hk:P.underlying k=some .string) (he:P.underlying e=some (.int .i64)) (ty:TypeId) :
  ((∀s:ByteArray,s.size≤maxLen→left s=false)∧(Instr.next (.pointer (some ⟨r,0,none⟩)) false ty).run P w=.ok (.tuple #[.bool false]) w) ∨
  ∃s c w' cnt',s.size≤maxLen∧left s=true∧f s=some c∧(-9223372036854775808≤c∧c≤9223372036854775807)∧(Instr.next (.pointer (some ⟨r,0,none⟩)) false ty).run P w=.ok (.tuple #[.bool true,.string s,.int .i64 c]) w' ∧
   IK P w' k e b r f (fun u=>left u && !decide (u=s)) cnt' n m∧cnt'<cnt∧w.grownBy w' (some r)∧w'.heap.size=w.heap.size∧(Instr.entry (.pointer (some ⟨r,0,none⟩))).run P w'=.ok (.tuple #[.string s,.int .i64 c]) w':=by
 obtain ⟨D,lf,h1,h2,h3,h4⟩:=h
 have K:=Maps.string_keyed hk
 rcases h1.next K ty with ⟨_,g2,g3⟩|⟨key,v,kl,y,w',cnt',g1,g2,g3,g4,g5,g6,g7,g8,g9,g10⟩
 ·exact .inl ⟨fun s hs=>by rw [← h4 s hs];exact g2 _,g3⟩
 ·obtain ⟨s,rfl,hkl,hs⟩:∃s,key=.string s∧kl=Cm s∧s.size≤maxLen:=by
   obtain ⟨s,e1,e2,e3⟩:=Go.WideMaps.string_of_keyOf hk g1
   exact ⟨s,e1,e2,e3⟩
  subst hkl
  obtain ⟨c,rfl,rfl,hwc⟩:=plainElem_int_inv he g3
  have hfc:f s=some c:=by
   have hhas:Maps.has D (Cm s)=true:=by
    cases hh:Maps.has D (Cm s) with
    | true=>rfl
    | false =>
     have e1:=g4 (.lit (.int .i64 (c+1)))
     rw [Maps.atKey_of_not_has hh] at e1
     injection e1 with e1;injection e1 with _ e1
     omega
   obtain ⟨c0,hc0⟩:=Option.isSome_iff_exists.1 ((h3 s hs).1.1 hhas)
   have e2:=(h3 s hs).2 c0 hc0 (.lit (.int .i64 0))
   rw [g4 (.lit (.int .i64 0))] at e2
   injection e2 with e2;injection e2 with _ e2
   rw [hc0,e2]
  refine .inr ⟨s,c,w',cnt',hs,by rw [← h4 s hs];exact g2,hfc,by simpa [Lit.wf,IntKind.min,IntKind.max,IntKind.bits,IntKind.signed] using hwc,g5,⟨D,_,g6,h2,h3,fun u hu=>?_⟩,g7,g8,g9,g10⟩
  rw [h4 u hu]
  by_cases e':u=s
  ·subst e';simp [WideAt.sameKey_self (K.key g1)]
  ·simp [Maps.sameKey_ne (GH e'),e']
variable {k : IntKind} {s : ByteArray}
theorem Q114 (ht:P.underlying t=some (.map kt et)) (hx:E.look x=some (.int k i)) (he:Am P dr.1 ⟨d,.makeMap t (some x),ty,pos,af,g⟩=true) (hd:Ah n d=true) (h:∀b w',b=w.heap.size→DF P w' kt et b (fun _=>none) 0 0→Ext w w'→w'.heap.size=w.heap.size+1→G P n ops dr l (E.put d (.map (some b))) w' K):G1 P n ops dr ⟨d,.makeMap t (some x),ty,pos,af,g⟩ l E w K :=
 Zs _ (w.alloc (.map #[] 0)) he hd (fun a ha=>by simp [execOp,Instr.makeMap,run_underlying ht,ha.eval hx,asInt,asIntOf,newObj,Sem.run]) (.inr (Ext.alloc Ext.rfl' _).toS)
  (h w.heap.size _ rfl (DF.made w P kt et) (Ext.alloc Ext.rfl' _) (by simp))
theorem Q109 (ht:P.underlying t=some (.map kt et)) (hk:P.underlying kt=some .string) (he:P.underlying et=some (.int .i64)) (hz:Ag P et (.int .i64 0)) (hx:E.look x=some (.map (some b))) (hy:E.look y=some (.string s)) (hs:s.size≤maxLen) (ho:DF P w kt et b f cnt m) (hd:Ah n d=true) (h:G P n ops (dq,[]) l (E.put d (.int .i64 ((f s).getD 0))) w K):G1 P n ops (dq,[]) ⟨d,.lookup t x y false,ty,pos,af,g⟩ l E w K :=
 Zd _ hd (fun a ha w' hw=>by
  have hx':=ho.ext (Ej hw (by simp [Bi]))
  have:=(hx'.look hk he ht hz hs).1
  simp [execOp,ha.eval hx,ha.eval hy,this]) h
theorem Q121 {v:Int} (ht:P.underlying t=some (.map kt et)) (hk:P.underlying kt=some .string) (hek:P.underlying et=some (.int .i64)) (hx:E.look x=some (.map (some b))) (hy:E.look y=some (.string s)) (hz:E.look z=some (.int .i64 v)) (hs:s.size≤maxLen) (ho:DF P w kt et b f cnt m) (he:Am P dr.1 ⟨d,.mapUpdate t x y z,ty,pos,af,g⟩=true) (hw:writes dr.1 ⟨d,.mapUpdate t x y z,ty,pos,af,g⟩=true) (hd:Ah n d=true) (h:∀w',DF P w' kt et b (putF f s v) (if (f s).isSome=true then cnt else cnt+1) (m+1)→w.grownBy w' (some b)→G P n ops dr l (E.put d undef) w' K) (hv:-9223372036854775808≤v∧v≤9223372036854775807) (hm:m<maxLen):G1 P n ops dr ⟨d,.mapUpdate t x y z,ty,pos,af,g⟩ l E w K:=by
 obtain ⟨w',hr,h1,h2⟩:=ho.put hk hek ht hm hs hv
 exact Zat w' he hd (fun a ha=>by simp [execOp,ha.eval hx,ha.eval hy,ha.eval hz,hr]) (.inl hw) (h w' h1 h2)
theorem Q117 (ht:P.underlying t=some (.map kt et)) (hx:E.look x=some (.map (some b))) (ho:DF P w kt et b f cnt m) (hd:Ah n d=true) (h:G P n ops (dq,[]) l (E.put d (.int .i64 cnt)) w K):G1 P n ops (dq,[]) ⟨d,.call ⟨.builtin .len,#[x],#[t]⟩,ty,pos,af,g⟩ l E w K :=
 Zd _ hd (fun a ha w' hw=>by
  have hx':=ho.ext (Ej hw (by simp [Bi,ht]))
  obtain ⟨D,h1,h2,_⟩:=hx'
  have:=h1.len ht ty
  rw [h2] at this
  simp [execOp,resolve,invoke,builtin,ha.eval hx,this]) h
noncomputable def Gy (o:Option (ByteArray × Value)):Lit→Option Value:=match o with
 | none=>fun _=>none
 | some (s,v)=>MR (fun _=>none) (Cm s) v
def KX {α:Type} (o:Option α):Nat:=match o with
 | none=>0
 | some _=>1
def Cy (P:Program) (w:World) (k b:Nat) (o:Option (ByteArray × Value)):Prop :=
 ∃D:DataW Value,w.ownsMap P k Ir b (KX o) D∧(∀kl,Maps.has D kl=(Gy o kl).isSome∧∀v,Gy o kl=some v→∀zd,D.atKey kl zd=.held v)∧Maps.size D=KX o
variable {k : Nat}
theorem Cy.mapV (h:Cy P w k b o):Dw P w k b (Gy o) 1:=by
 obtain ⟨D,h1,h2,_⟩:=h;exact ⟨D,h1.mono (by cases o <;> simp [KX]),h2⟩
theorem Cy.lt (h:Cy P w k b o):b<w.heap.size:=h.mapV.lt
theorem Cy.same (h:Cy P w k b o) (hs:w'.heap[b]?=w.heap[b]?):Cy P w' k b o:=by
 obtain ⟨D,⟨es,clock,hb,h3⟩,h2⟩:=h
 exact ⟨D,⟨es,clock,hs.trans hb,h3⟩,h2⟩
theorem Cy.ext (h:Cy P w k b o) (hx:Ext w w'):Cy P w' k b o:=h.same (hx.block b h.lt)
theorem Cy.obj (h:Cy P w k b o):∃es clock,w.heap[b]?=some (.map es clock):=by
 obtain ⟨D,⟨es,clock,hb,h3⟩,h2⟩:=h
 exact ⟨_,_,hb⟩
theorem Cy.made (w:World) (P:Program) (k:Nat):Cy P (w.alloc (.map #[] 0)) k w.heap.size none:=by
 exact ⟨.map [],World.ownsMap_made w P k Ir,fun s=>⟨by simp [Maps.has,Gy],fun c hc=>by cases hc⟩,rfl⟩
theorem Cy.put (h:Cy P w k b none) (K:Maps.Keyed P k) (ht:P.underlying t=some (.map k e)) {s:ByteArray} (hkey:keyOf P k (.string s)=some (Cm s)) (v:Value) :
  ∃w',(Instr.mapUpdate t (.map (some b)) (.string s) v).run P w=.ok () w'∧Cy P w' k b (some (s,v))∧w.grownBy w' (some b):=by
 obtain ⟨D,h1,h2,h3⟩:=h
 obtain ⟨w',hr,ho,hg⟩:=h1.update K ht (by decide) hkey (show Ir v=some (.held v,[]) from rfl)
 have hlit:=K.key hkey
 have hmap:=h1.isMap
 refine ⟨w',hr,⟨_,ho,fun u=>?_,?_⟩,hg⟩
 ·show _=(MR (fun _=>none) (Cm s) v u).isSome∧∀v',MR (fun _=>none) (Cm s) v u=some v'→_
  unfold MR
  by_cases e':u=Cm s
  ·subst e'
   rw [if_pos rfl]
   refine ⟨by simp [Maps.has_put_same hmap hlit],fun c' hc' zd=>?_⟩
   injection hc' with hc'
   rw [← hc']
   exact Maps.atKey_put_same hmap hlit _ _
  ·rw [if_neg e',Maps.has_put_other e']
   refine ⟨(h2 u).1,fun c' hc' zd=>?_⟩
   rw [Maps.atKey_put_other e']
   exact (h2 u).2 c' hc' zd
 ·have hz:=Maps.size_put (k:=Cm s) (h1.tidy K) (.held v)
  have h0:Maps.has D (Cm s)=false:=by rw [(h2 _).1];rfl
  rw [h0,h3] at hz
  simpa [KX] using hz
theorem Q115 (_ht:P.underlying t=some (.map kt et)) (he:Am P dr.1 ⟨d,.makeMap t none,ty,pos,af,g⟩=true) (hd:Ah n d=true) (h:∀b w',b=w.heap.size→Cy P w' kt b none→Ext w w'→w'.heap.size=w.heap.size+1→G P n ops dr l (E.put d (.map (some b))) w' K):G1 P n ops dr ⟨d,.makeMap t none,ty,pos,af,g⟩ l E w K :=
 Zs _ (w.alloc (.map #[] 0)) he hd (fun a ha=>by simp [execOp,Instr.makeMap,newObj,Sem.run]) (.inr (Ext.alloc Ext.rfl' _).toS)
  (h w.heap.size _ rfl (Cy.made w P kt) (Ext.alloc Ext.rfl' _) (by simp))
theorem Q122 (ht:P.underlying t=some (.map kt et)) (Kk:Maps.Keyed P kt) (hx:E.look x=some (.map (some b))) (hy:E.look y=some (.string s)) (hz:E.look z=some v) (hkey:keyOf P kt (.string s)=some (Cm s)) (ho:Cy P w kt b none) (he:Am P dr.1 ⟨d,.mapUpdate t x y z,ty,pos,af,g⟩=true) (hw:writes dr.1 ⟨d,.mapUpdate t x y z,ty,pos,af,g⟩=true) (hd:Ah n d=true) (h:∀w',Cy P w' kt b (some (s,v))→w.grownBy w' (some b)→G P n ops dr l (E.put d undef) w' K):G1 P n ops dr ⟨d,.mapUpdate t x y z,ty,pos,af,g⟩ l E w K:=by
 obtain ⟨w',hr,h1,h2⟩:=ho.put Kk ht hkey v
 exact Zat w' he hd (fun a ha=>by simp [execOp,ha.eval hx,ha.eval hy,ha.eval hz,hr]) (.inl hw) (h w' h1 h2)
theorem Q79 (ht:P.underlying t=some (.map kt et)) (ho:Cy P w kt b o) (h:G P n ops (dq,[]) l (E.put d (.int .i64 (KX o:Nat))) w K) (hx:E.look x=some (.map (some b)):=by exact rfl) (hd:Ah n d=true:=by exact rfl):G1 P n ops (dq,[]) ⟨d,.call ⟨.builtin .len,#[x],#[t]⟩,ty,pos,af,g⟩ l E w K :=
 Zd _ hd (fun a ha w' hw=>by
  have hx':=ho.ext (Ej hw (by simp [Bi,ht]))
  obtain ⟨D,h1,_,h2⟩:=hx'
  have:=h1.len ht ty
  rw [h2] at this
  simp [execOp,resolve,invoke,builtin,ha.eval hx,this]) h
theorem Q110 (ht:P.underlying t=some (.map kt et)) (Kk:Maps.Keyed P kt) (hz:Ag P et zv) (hx:E.look x=some (.map (some b))) (hy:E.look y=some (.string s)) (hkey:keyOf P kt (.string s)=some (Cm s)) (ho:Cy P w kt b (some (s,v))) (hd:Ah n d=true) (h:G P n ops (dq,[]) l (E.put d v) w K):G1 P n ops (dq,[]) ⟨d,.lookup t x y false,ty,pos,af,g⟩ l E w K :=
 Zbb ht Kk hz hx hy hkey ho.mapV hd (by
  have e:Gy (some (s,v)) (Cm s)=some v:=by simp only [Gy];exact Ht _ _ _
  rw [e];exact h)
theorem Q111 (ht:P.underlying t=some (.map kt et)) (Kk:Maps.Keyed P kt) (hz:Ag P et zv) (hx:E.look x=some (.map (some b))) (hy:E.look y=some (.string s)) (hkey:keyOf P kt (.string s)=some (Cm s)) (ho:Cy P w kt b none) (hd:Ah n d=true) (h:G P n ops (dq,[]) l (E.put d (.tuple #[zv,.bool false])) w K):G1 P n ops (dq,[]) ⟨d,.lookup t x y true,ty,pos,af,g⟩ l E w K :=
 ZaY ht Kk hz hx hy hkey ho.mapV hd h
variable {f : FuncId}
theorem Q40 (h:G P n ops dr l ((DK,.func (.func f) #[] cap) :: E.put d undef) w K) (hx:E.look x=some (.func (.func f) #[] cap):=by exact rfl) (hk:E.get DK=none:=by exact rfl) (he:Am P dr.1 ⟨d,.defer ⟨.value x,#[],#[]⟩,ty,pos,af,g⟩=true:=by exact rfl) (hd:Ah n d=true:=by exact rfl):G1 P n ops dr ⟨d,.defer ⟨.value x,#[],#[]⟩,ty,pos,af,g⟩ l E w K:=by
 unfold G1
 intro a ha hw
 refine .inr ⟨he,hw,?_⟩
 unfold DZ Oper.wp
 have e1:(execOp a.eval ⟨d,.defer ⟨.value x,#[],#[]⟩,ty,pos,af,g⟩).run P w=.ok (.defer ⟨.fn (.func f) cap,#[]⟩) w:=by
  simp [execOp,resolve,Deferred.ofValue,ha.eval hx]
 rw [e1]
 refine ⟨.inr Bd.rfl',?_⟩
 unfold G at h
 refine h _ ?_
 have h0:=ha.put d undef (Be hd)
 have hk2:(E.put d undef).get DK=none:=by
  cases d with
  | none=>exact hk
  | some d =>
   have:d≠DK:=by have:=Be hd d rfl;have:=ha.le;omega
   simp only [Env.put,Env.get_cons,this,if_false,hk]
 have hd0:a.defers=[]:=by rw [ha.defers];simp only [Env.dfr,hk]
 refine ⟨?_,?_,h0.le,fun v hv=>?_,fun t v ht=>?_⟩
 ·cases d <;> simp [Env.dfr,Env.get_cons,Act.put,hd0]
 ·have:=h0.size;cases d <;> simpa [Act.put] using this
 ·rw [Env.get_cons] at hv
  simp only [if_true,Option.some.injEq] at hv
  subst hv;exact ⟨fun _ e=>(by cases e),fun _ e=>(by cases e)⟩
 ·rw [Env.get_cons] at ht
  by_cases e:DK=t
  ·exact .inl e.symm
  ·simp only [e,if_false] at ht
   refine .inr ?_
   have:=(h0.get t v ht).resolve_left (fun e2=>e e2.symm)
   cases d <;> simpa [Act.put] using this
theorem Ez {f:FuncId} {fn:Func} {c:Code} {args:List Value} {Φ:Value→World→Prop} {m:Nat} (hf:P.funcs[f]?=some fn) (hm:fn.ntmps=m) (hb:fn.body=some c)
  (hname : (fn.name == "runtime.NumGoroutine") = false) (hn : (Nat.ble args.length m && Nat.ble m DK) = true) (h : W P m c (bodyPostD P fn (Ret Φ)) (Ei 0 args) w) : Ctr P f args w Φ := by
 unfold Ctr
 refine ⟨⟨fn,hf,by simpa using hname,by simp [hb]⟩,?_⟩
 subst hm
 unfold W at h
 exact calls_of_wp_defers hf hb (h _ (JE hn))
def JA (P:Program) (f:FuncId) (cap:Array Value) (w:World):Prop:=Enters P f∧CallsD P f cap .returning w (fun e u' w'=>(∃v,e=.returned v)∧u'=.returning∧Ext w w')
theorem ZE {fn:Func} {rs:List ResultVar} {Φ:Value→World→Prop} {fi:Array Value} (hr:fn.results=rs.toArray) (hD:E.get DK=some (.func (.func f) fi cap)) (hc:JA P f cap w)
  (h:∀w',Ext w w'→∃vs,DI P E w' rs vs∧Φ (Cj vs) w'):Post n (bodyPostD P fn (Ret Φ)) .ret E w:=by
 unfold Post
 intro a ha
 show Leaves P fn a.tmps (Ret Φ) a.defers .returning w
 have e0:a.defers=[⟨.fn (.func f) cap,#[]⟩]:=by rw [ha.defers];simp only [Env.dfr,hD]
 rw [e0]
 refine leaves_cons (by simp) (f:=f) (args:=cap) (by simpa [invoke] using BU hc.1 cap w) (hc.2.mono ?_)
 rintro e u' w' ⟨⟨v,rfl⟩,rfl,hx⟩
 obtain ⟨vs,h1,h2⟩:=h w' hx
 exact ⟨_,h1.res ha hr,_,rfl,h2⟩
abbrev Fr (ro:Option Nat):Fence:={ Fence.wide with round:=ro }
def CS (o:Oper):Bool:=match o.op with | .defer _=>false|_=>true
variable {a : Act} {o : Oper}
theorem Oh (hp:CS o=true) (ρ:Operand→Value):o.semAt ro ρ=execOp ρ o :=
 Oper.semAt_plain (Fr ro) ρ o (fun c e=>by unfold CS at hp;rw [e] at hp;cases hp)
theorem JH {n:Nat} {f:FuncId} {args:Array Value} {R:Ending→World→Prop} (h:Calls P f args w R):CallsIn (Fr ro) n P f args w R:=(callsIn_wide (n:=n)).2 h
theorem Nb {next:Act→World→Prop} (hp:CS o=true) (h:o.wp P a w next QF):o.wpIn (Fr ro) 0 P a w next Q:=by
 refine ⟨fun _ _=>trivial,?_⟩
 rw [Oh hp]
 unfold Oper.wp at h
 generalize (execOp a.eval o).run P w=r at *
 cases r with
 | ok x w' =>
  cases x with
  | value v=>exact h
  | skip=>exact h
  | defer d=>exact h
  | enter f args =>
   refine ⟨fun e=>(by cases e),JH (h.mono fun e w'' he=>?_)⟩
   cases e with
   | returned v=>exact he
   | panicked c=>exact he.elim
   | outgrown=>obtain ⟨_,_,hh⟩:=he;exact hh.elim
  | row row args=>exact ⟨fun e=>(by cases e),fun c cs _=>let ⟨v,w',r,s⟩:=h c cs;⟨v,w',r,stepsIn_wide.2 s⟩⟩
  | _=>exact h.elim
 | halt x w'=>cases x <;> first|exact h.elim|(simp only [Oper.upon] at h;exact h.elim)
theorem Gc {S:List Nat} {ef rd wr:Oper→Bool} {K:Act→World→Prop} {rest:List Nat} (hQ:∀a w,K a w→wpOpsIn (Fr ro) 0 P ops Q rest a w) :
  ∀(m k:Nat) (l:List Oper) (a:Act) (w:World),l.all CS=true→l.length=m→(∀j,j<m→l[j]?=ops[k+j]?) →
   GA P S ops ef rd wr K l a w→wpOpsIn (Fr ro) 0 P ops Q (List.range' k m++rest) a w
 | 0,k,l,a,w,_,hm,hl,h=>by
  obtain rfl:l=[]:=List.eq_nil_of_length_eq_zero hm
  simpa using hQ _ _ h
 | m+1,k,[],a,w,_,hm,hl,h=>by simp at hm
 | m+1,k,o :: l,a,w,hp,hm,hl,h=>by
  have h0:ops[k]?=some o:=by simpa using (hl 0 (by omega)).symm
  simp only [List.all_cons,Bool.and_eq_true] at hp
  have ih:=fun a w=>Gc (S:=S) (ef:=ef) (rd:=rd) (wr:=wr) hQ m (k+1) l a w hp.2 (by simpa using hm)
   (fun j hj=>by have:=hl (j+1) (by omega);simpa [Nat.add_assoc,Nat.add_comm 1 j] using this)
  simp only [List.range'_succ,List.cons_append,wpOpsIn,h0]
  simp only [GA] at h
  rcases h with ⟨v,hy,h⟩|⟨he,hw,h⟩
  ·rcases hy with ⟨hw,hv⟩|⟨hw,rfl⟩
   ·simp only [hw,if_true]
    refine Nb hp.1 ?_
    simp only [Oper.wp,hv w (.inr Bd.rfl'),Oper.upon]
    exact ih _ _ h
   ·simp only [hw,Bool.false_eq_true,if_false]
    exact ⟨fun _ _=>trivial,ih _ _ h⟩
  ·simp only [hw,if_true]
   exact Nb hp.1 (Oper.wp_mono (fun a w h=>ih _ _ h.2) h)
def WR (P:Program) (n:Nat) (ro:Option Nat) (c:Code) (Q:Exit→Act→World→Prop) (E:Env) (w:World):Prop:=∀a,Holds n E a→c.wpIn (Fr ro) 0 P Q a w
theorem ZaV {c:Code} (h:WR P n none c Q E w):W P n c Q E w:=by unfold W;exact fun a ha=>(wpIn_wide (n:=0)).1 (h a ha)
theorem Zbh {x y:Code} (h:WR P n ro x (Exit.then (y.wpIn (Fr ro) 0 P Q) Q) E w):WR P n ro (.seq x y) Q E w:=fun a ha=>wpIn_seq (h a ha)
theorem ZaB {id:Nat} {c:Code} (h:WR P n ro c (Exit.inBlock id Q) E w):WR P n ro (.block id c) Q E w:=fun a ha=>wpIn_block (h a ha)
theorem JC {y:Code} (h:WR P n ro y Q E w):Post n (Exit.then (y.wpIn (Fr ro) 0 P Q) Q) .normal E w:=by unfold Post;exact h
theorem ZM {id:Nat} {l:List Oper} (hp:l.all CS=true) (h:G P n l.toArray (0,[]) l E w (Post n Q .normal)):WR P n ro (.region id l.toArray false) Q E w:=by
 unfold G Post at h
 intro a ha
 refine wpIn_region ?_
 have:=Gc (P:=P) (ro:=ro) (S:=[]) (ops:=l.toArray) (ef:=Am P 0) (rd:=Bi P) (wr:=writes 0) (Q:=Q) (K:=fun a' w'=>∃E',Holds n E' a'∧Post n Q .normal E' w') (rest:=[])
  (fun a w ⟨_,hE,hp⟩=>by unfold Post at hp;exact hp a hE) l.length 0 l a w hp rfl (fun j hj=>by simp) (by unfold Post;exact h a ha)
 simpa [List.range_eq_range'] using this
theorem Ec {S:List Nat} {ops:Array Oper} {wr:Oper→Bool} {K:Act→World→Prop} (hp:∀(i:Nat) o,ops[i]?=some o→CS o=true) (hQ:∀a w,K a w→Q .normal a w) :
  ∀(fuel:Nat) (listed:Array Bool) (a:Act) (w:World),wpX P S ops wr K fuel listed a w→wpAnyIn (Fr ro) 0 P .any ops Q fuel listed a w
 | 0,_,_,_,h=>⟨h.1,hQ _ _ h.2⟩
 | fuel+1,listed,a,w,h=>⟨fun h0=>hQ _ _ (h.1 h0),fun i hi=>by
   have h1:=Fh (fun a w=>Ec hp hQ fuel (listed.setIfInBounds i true) a w) (h.2 i hi)
   unfold opX at h1
   unfold wpOpIn
   split
   ·rename_i ho;simp only [ho] at h1;exact h1
   ·rename_i o ho
    simp only [ho] at h1
    split
    ·rename_i hw;simp only [hw,if_true] at h1;exact Nb (hp i o ho) (Oper.wp_mono (fun _ _ h=>h.2) h1)
    ·rename_i hw;simp only [hw] at h1;exact ⟨fun _ _=>trivial,h1⟩⟩
theorem Zbg {id:Nat} {l:List Oper} (k:Nat) (S:List Nat) (c:List Nat) (hm:P.follows .mixedOrders=true)
  (hc:(l.all CS && Region.noSelect l.toArray && okc l.toArray (Am P k) (Bi P) (writes k) c (Array.replicate l.length false) && Nat.beq c.length l.length)=true)
  (h:G P n l.toArray (k,S) (c.map fun i=>l.toArray.getD i default) E w.drew (Post n Q .normal)):WR P n ro (.region id l.toArray true) Q E w:=by
 unfold G Post at h
 intro a ha
 simp only [Bool.and_eq_true] at hc
 refine wpIn_region_any hm (Ec (S:=S) (wr:=writes k) (K:=fun a' w'=>∃E',Holds n E' a'∧∀a,Holds n E' a→Q .normal a w') (fun i o ho=>?_) (fun a _ ⟨_,hE,hp⟩=>hp a hE) _ _ _ _ ?_)
 ·exact List.all_eq_true.1 hc.1.1.1 o (List.mem_of_getElem? (i:=i) (by simpa using ho))
 ·have hl:c.length=l.length:=by simpa using hc.2
  have:=En (P:=P) hc.1.1.2 c (Array.replicate l.length false) a { w with drawn:=w.drawn+1 } hc.1.2 (h a ha)
  rw [hl] at this
  simpa using this
theorem Zam {id:Nat} {l:List Oper} (k:Nat) {d:Option Nat} {x:Operand} {args:Array Operand} {tys:Array TypeId} {ty:TypeId} {pos:String} {af:Array Edge}
  (hp:l.all CS=true) (hk:l[k]?=some ⟨d,.call ⟨.value x,args,tys⟩,ty,pos,af,none⟩) (hd:Ah n d=true)
  (h:G P n l.toArray (0,[]) (l.take k) E w (fun E1 w1=>∃(lp:Nat) (vs:List Value) (Φ:Bool→World→Prop),E1.look x=some (.func (.yield lp) #[] #[])∧E1.looks args.toList=some vs∧YieldAt Fence.wide 0 P lp vs.toArray w1 (fun e w2=>∃b,e=.returned (.bool b)∧Φ b w2) ∧
   ∀b w2,Φ b w2→G P n l.toArray (0,[]) (l.drop (k+1)) (E1.put d (.bool b)) w2 (Post n Q .normal))):W P n (.region id l.toArray false) Q E w:=by
 refine ZaV fun a ha=>wpIn_region ?_
 unfold G at h
 have hlt:=(List.getElem?_eq_some_iff.1 hk).1
 have hp1:(l.take k).all CS=true:=by rw [List.all_eq_true] at *;exact fun x hx=>hp x (List.mem_of_mem_take hx)
 have hp2:(l.drop (k+1)).all CS=true:=by rw [List.all_eq_true] at *;exact fun x hx=>hp x (List.mem_of_mem_drop hx)
 have e1:List.range l.toArray.size=List.range' 0 k++(k :: (List.range' (k+1) (l.length - (k+1))++[])):=by
  rw [List.append_nil,List.range_eq_range',← List.range'_succ]
  have:=List.range'_append_1 (s:=0) (m:=k) (n:=l.length - (k+1)+1)
  rw [Nat.zero_add] at this
  rw [this]
  congr 1
  simp;omega
 rw [e1]
 refine Gc (P:=P) (ro:=none) (S:=[]) (ef:=Am P 0) (rd:=Bi P) (wr:=writes 0) (K:=fun a' w'=>∃E',Holds n E' a'∧_) ?_ k 0 (l.take k) a w hp1 (by simp;omega)
  (fun j hj=>by simp [hj]) (h a ha)
 rintro a1 w1 ⟨E1,hE1,lp,vs,Φ,hx,hargs,⟨fn,tmps,assign,body,hy,hR⟩,hK⟩
 simp only [wpOpsIn,List.getElem?_toArray,hk]
 have hw:Region.wanted (⟨d,.call ⟨.value x,args,tys⟩,ty,pos,af,none⟩:Oper) (yielded l.toArray a1.tmps)=true:=rfl
 simp only [hw,if_true]
 refine ⟨fun _ _=>trivial,?_⟩
 rw [Oh (ro:=none) rfl]
 have hm:args.map a1.eval=vs.toArray:=by
  rw [← hE1.evals hargs];apply Array.ext';simp
 have e2:(execOp a1.eval (⟨d,.call ⟨.value x,args,tys⟩,ty,pos,af,none⟩:Oper)).run P w1=.ok (.round lp fn tmps assign body) w1:=by
  simp [execOp,resolve,Deferred.ofValue,hE1.eval hx,invoke,hm,hy]
 rw [e2]
 refine ⟨fun e=>(by cases e),hR.mono ?_⟩
 rintro e w2 ⟨b,rfl,hΦ⟩
 have h2:=hK b w2 hΦ
 unfold G Post at h2
 exact Gc (P:=P) (ro:=none) (S:=[]) (ef:=Am P 0) (rd:=Bi P) (wr:=writes 0) (K:=fun a' w'=>∃E',Holds n E' a'∧∀a,Holds n E' a→Q .normal a w') (rest:=[])
  (fun a w ⟨_,hE,hp⟩=>hp a hE) (l.length - (k+1)) (k+1) (l.drop (k+1)) _ w2 hp2 (by simp) (fun j hj=>by simp [List.getElem?_drop]) (h2 _ (hE1.put _ _ (Be hd)))
theorem Zai {g:Operand} {ps:Array Tmp} {assign body:Code} {gf:FuncId} {lb:Array Value} (hg:E.look g=some (.func (.func gf) #[] lb)) (hk:E.get DK=none) (he:Enters P gf)
  (h:∀(fn:FuncId) (tmps:Array Value) (rec:Loop) (w1:World),Holds n E ⟨tmps,[]⟩→rec={ state:=.ready,pending:=none,fn,tmps,params:=ps,assign,body,defers:=w.heap.size } →
   w1.heap[w.heap.size+1]?=some (.loop rec)→w1.heap[w.heap.size]?=some (.deferred (some []))→Ext w w1→w1.heap.size=w.heap.size+2 →
   Calls P gf (#[.func (.yield (w.heap.size+1)) #[] #[]]++lb) w1 (fun e w2=>(∃v,e=.returned v)∧∃r,w2.heap[w.heap.size+1]?=some (.loop r)∧r.state≠.busy∧r.pending=none ∧
    Post n Q .normal ((DK,.pointer (some ⟨w.heap.size,0,none⟩)) :: E) (w2.putObj (w.heap.size+1) (.loop { r with state:=.exhausted })))):W P n (.rangeFunc g ps assign body) Q E w:=by
 refine ZaV fun a ha=>wpIn_rangeFunc fun fn _=>?_
 have hd0:a.defers=[]:=by rw [ha.defers];simp only [Env.dfr,hk]
 have hH:Holds n E ⟨a.tmps,[]⟩:=⟨by rw [← hd0];exact ha.defers,ha.size,ha.le,ha.dk,ha.get⟩
 obtain ⟨W1,hW1⟩:∃W1,(w.alloc (.deferred (some []))).alloc (.loop { state:=.ready,pending:=none,fn,tmps:=a.tmps,params:=ps,assign,body,defers:=w.heap.size })=W1:=⟨_,rfl⟩
 refine ⟨w.heap.size+1,[{ target:=.collected w.heap.size,args:=#[] }],W1,{ target:=.fn (.func gf) lb,args:=#[.func (.yield (w.heap.size+1)) #[] #[]] },W1,gf,#[.func (.yield (w.heap.size+1)) #[] #[]]++lb,W1,?_,?_,?_,?_,?_,?_⟩
 ·rw [← hW1];exact run_enterLoop_outer fn a.tmps ps assign body
 ·simp only [resolve,ha.eval hg]
  simp [Deferred.ofValue,Act.eval]
 ·exact fun _ _=>trivial
 ·simpa [invoke] using BU he _ _
 ·exact fun e=>(by cases e)
 ·have hl0:W1.heap[w.heap.size+1]?=some (.loop { state:=.ready,pending:=none,fn,tmps:=a.tmps,params:=ps,assign,body,defers:=w.heap.size }):=by
   rw [← hW1];have:=World.alloc_heap_new (w.alloc (.deferred (some []))) (.loop { state:=.ready,pending:=none,fn,tmps:=a.tmps,params:=ps,assign,body,defers:=w.heap.size });rwa [World.size_alloc] at this
  have hD0:W1.heap[w.heap.size]?=some (.deferred (some [])):=by
   rw [← hW1];exact (Below.heap_alloc _ _ _ (by simp)).trans (World.alloc_heap_new w _)
  have hxl:Ext w W1:=by rw [← hW1];exact Ext.alloc (Ext.alloc Ext.rfl' _) _
  refine JH (ro:=none) ((h fn a.tmps _ W1 hH rfl hl0 hD0 hxl (by rw [← hW1];simp)).mono ?_)
  rintro e w2 ⟨⟨v,rfl⟩,r,hr,hb,hpd,hP⟩
  unfold Post at hP
  refine ⟨r.pending,_,run_endLoop hr hb,?_⟩
  split
  case h_2 c hc=>rw [hpd] at hc;cases hc
  refine hP _ ?_
  refine ⟨?_,ha.size,ha.le,fun v hv=>?_,fun t v ht=>?_⟩
  ·simp [Env.dfr,Env.get_cons,hd0]
  ·rw [Env.get_cons] at hv;simp only [if_true,Option.some.injEq] at hv;subst hv;exact ⟨fun _ e=>(by cases e),fun _ e=>(by cases e)⟩
  ·rw [Env.get_cons] at ht
   by_cases e:DK=t
   ·exact .inl e.symm
   ·simp only [e,if_false] at ht;exact ha.get t v ht
theorem OM {l:Nat} {rec:Loop} {vs:List Value} {E1:Env} {W:World} {Φ:World→Prop} (hl:W.heap[l]?=some (.loop rec)) (hst:rec.state=.ready) (hpd:rec.pending=none) (hn:vs.length=rec.params.size)
  (hE:Holds n E1 ⟨(rec.params.zip vs.toArray).foldl (fun t (p,v)=>t.setIfInBounds p v) rec.tmps,[]⟩)
  (ha:WR P n (some l) rec.assign (Exit.then (fun a w1=>∃E2,Holds n E2 a∧w1.heap[l]?=some (.loop rec) ∧
   WR P n (some l) rec.body (fun e _ w3=>e=.normal∧w3.heap[l]?=some (.loop { rec with state:=.busy })∧Φ (w3.putObj l (.loop rec))) E2 (w1.putObj l (.loop { rec with state:=.busy }))) (fun _ _ _=>False)) E1 W) :
  YieldAt Fence.wide 0 P l vs.toArray W (fun e w'=>∃b,e=.returned (.bool b)∧b=true∧Φ w'):=by
 refine ⟨_,_,_,_,run_yield hl (by simpa using hn),?_⟩
 refine RoundIn.mono (R:=fun e w'=>e=.returned (.bool true)∧Φ w') (roundIn_of_wpIn (F:=Fence.wide) (n:=0) trivial ?_) ?_
 ·refine wpIn_mono (ha _ hE) ?_
  intro e a w1 h1
  cases e with
  | normal =>
   obtain ⟨E2,h2,hl1,hb⟩:=h1
   refine ⟨_,run_beginRound hl1 hst,wpIn_mono (hb a h2) ?_⟩
   rintro e a3 w3 ⟨rfl,h3,hΦ⟩
   refine ⟨_,_,run_endRound none h3,by simp,?_⟩
   have:(({ { rec with state:=.busy } with state:=if (none:Option Code).isNone then .ready else .done,pending:=none }:Loop))=rec:=by
    cases rec;simp_all
   rw [this];exact hΦ
  | _=>exact h1.elim
 ·rintro e w' ⟨rfl,h⟩;exact ⟨true,rfl,rfl,h⟩
theorem EN {l:Nat} {rec:Loop} {A B:Code} {vs:List Value} {E1:Env} {W:World} {Φ:World→Prop} (hA:rec.assign=A) (hB:rec.body=B) (hl:W.heap[l]?=some (.loop rec)) (hst:rec.state=.ready) (hpd:rec.pending=none) (hn:vs.length=rec.params.size)
  (hE:Holds n E1 ⟨(rec.params.zip vs.toArray).foldl (fun t (p,v)=>t.setIfInBounds p v) rec.tmps,[]⟩)
  (ha:WR P n (some l) A (Exit.then (fun a w1=>∃E2,Holds n E2 a∧w1.heap[l]?=some (.loop rec) ∧
   WR P n (some l) B (fun e _ w3=>e=.normal∧w3.heap[l]?=some (.loop { rec with state:=.busy })∧Φ (w3.putObj l (.loop rec))) E2 (w1.putObj l (.loop { rec with state:=.busy }))) (fun _ _ _=>False)) E1 W) :
  YieldAt Fence.wide 0 P l vs.toArray W (fun e w'=>∃b,e=.returned (.bool b)∧b=true∧Φ w'):=by
 subst hA hB
 exact OM hl hst hpd hn hE ha
theorem EY {l:Nat} {rec:Loop} {c:Code} {Q':Exit→Act→World→Prop} (hl:w.heap[l]?=some (.loop rec)) (h:WR P n (some l) c Q' E (w.putObj l (.loop { rec with state:=.busy }))) :
  Post n (Exit.then (fun a w1=>∃E2,Holds n E2 a∧w1.heap[l]?=some (.loop rec)∧WR P n (some l) c Q' E2 (w1.putObj l (.loop { rec with state:=.busy }))) (fun _ _ _=>False)) .normal E w:=by
 unfold Post
 exact fun a ha=>⟨E,ha,hl,h⟩
theorem Br (l:Nat) (o:Obj):w.grownBy (w.putObj l o) (some l):=grownBy_putObj' w l o
theorem Jq {f:FuncId} {fn:Func} {c:Code} {args:List Value} {Φ:Value→World→Prop} {m:Nat} (hf:P.funcs[f]?=some fn) (hm:fn.ntmps=m) (hb:fn.body=some c)
  (hname : (fn.name == "runtime.NumGoroutine") = false) (hn : (Nat.ble args.length m && Nat.ble m DK) = true) (h : W P m c (bodyPostM Fence.wide 1 P fn (Ret Φ)) (Ei 0 args) w) : Ctr P f args w Φ := by
 unfold Ctr
 refine ⟨⟨fn,hf,by simpa using hname,by simp [hb]⟩,?_⟩
 subst hm
 unfold W at h
 exact (callsIn_wide (n:=1)).1 (callsIn_of_wp_marks hf hb trivial ((wpIn_wide (n:=1)).2 (h _ (JE hn))) rfl)
theorem ZX {fn:Func} {rs:List ResultVar} {vs:List Value} {Φ:Value→World→Prop} {D:Nat} (hr:fn.results=rs.toArray) (hD:E.get DK=some (.pointer (some ⟨D,0,none⟩))) (hB:w.heap[D]?=some (.deferred (some [])))
  (h:DI P E (w.putObj D (.deferred none)) rs vs) (hΦ:Φ (Cj vs) (w.putObj D (.deferred none))):Post n (bodyPostM Fence.wide 1 P fn (Ret Φ)) .ret E w:=by
 unfold Post
 intro a ha
 show LeavesInM Fence.wide 1 P fn a.tmps (Ret Φ) a.defers .returning w
 have e0:a.defers=[⟨.collected D,#[]⟩]:=by rw [ha.defers];simp only [Env.dfr,hD]
 rw [e0]
 refine ⟨by simp,.inl ⟨D,_,rfl,run_takeDeferred hB,?_⟩⟩
 exact ⟨_,h.res ha hr,_,rfl,hΦ⟩
variable {fn : Func}
theorem AU {b t t':Nat} {v:Value} (hu:PlainT P t) (hb:Blk w.heap b t' [v]):(loadVar t (adr (bx b) 0)).run P w=.ok v w:=by
 have:=hb.cell (m:=0) (v:=v) rfl
 simp [loadVar,hu w,load,Sem.run,Gj,this]
theorem JM {d1 d2 id t1 t2 t3 t4 : Nat} {p1 p2 : String} {af1 af2 : Array Edge} {X : Code} (hf : P.funcs[f]? = some fn) (hname : (fn.name == "runtime.NumGoroutine") = false)
  (hb:fn.body=some (.seq (.region id #[⟨some d1,.call ⟨.builtin .recover,#[],#[]⟩,t1,p1,af1,none⟩,⟨some d2,.binOp .neq t2 (.tmp d1) (.const .nilIface) t3,t4,p2,af2,none⟩] false) (.cond (.tmp d2) X .skip)))
  (hres:fn.results=#[]) (hq1:∀w:World,(eqGuard .neq t2 (.tmp d1) (.const .nilIface) .nilIface .nilIface).run P w=.ok () w) (hq2:∀w:World,(binOp .neq t2 .nilIface .nilIface).run P w=.ok (.bool false) w) (hd1:d1<cap.size+(fn.ntmps - cap.size)) (hd2:d2<cap.size+(fn.ntmps - cap.size)):JA P f cap w:=by
 refine ⟨⟨fn,hf,by simpa using hname,by simp [hb]⟩,?_⟩
 refine callsD_of_wpS hf hb ?_
 intro c₀ cs hu
 refine wpS_seq (wpS_region ?_)
 have e0:List.range (#[(⟨some d1,.call ⟨.builtin .recover,#[],#[]⟩,t1,p1,af1,none⟩:Oper),⟨some d2,.binOp .neq t2 (.tmp d1) (.const .nilIface) t3,t4,p2,af2,none⟩]).size=[0,1]:=rfl
 rw [e0]
 have er:recoverD (c₀ :: cs)=none:=by simp [recoverD,hu]
 have e1:∀a:Act,(execOp a.eval (⟨some d1,.call ⟨.builtin .recover,#[],#[]⟩,t1,p1,af1,none⟩:Oper)).run P w=.ok .recover w:=fun a=>rfl
 simp only [wpOpsS,List.getElem?_toArray,List.getElem?_cons_zero,Region.wanted,e1,er]
 rw [if_pos trivial]
 simp only [List.getElem?_cons_succ,List.getElem?_cons_zero]
 obtain ⟨a1,ha1⟩:∃a1:Act,({ tmps:=cap++Array.replicate (fn.ntmps - cap.size) undef,defers:=[] }:Act).put (some d1) .nilIface=a1:=⟨_,rfl⟩
 have hs1:a1.tmps.size=cap.size+(fn.ntmps - cap.size):=by rw [← ha1];simp [Act.put]
 have hev:a1.eval (.tmp d1)=.nilIface:=by
  rw [← ha1];simp [Act.put,Act.eval,hd1]
 have hdf:a1.defers=[]:=by rw [← ha1];rfl
 rw [ha1]
 have hev':a1.tmps[d1]?.getD undef=.nilIface:=by simpa [Act.eval] using hev
 have e2:(execOp a1.eval (⟨some d2,.binOp .neq t2 (.tmp d1) (.const .nilIface) t3,t4,p2,af2,none⟩:Oper)).run P w=.ok (.value (.bool false)) w:=by
  simp [execOp,Act.eval,hev',hq1,hq2]
 rw [if_pos trivial,e2]
 simp only [Oper.upon]
 obtain ⟨a2,ha2⟩:∃a2:Act,a1.put (some d2) (.bool false)=a2:=⟨_,rfl⟩
 have hev2:a2.eval (.tmp d2)=.bool false:=by
  rw [← ha2];simp [Act.put,Act.eval,hs1,hd2]
 have hdf2:a2.defers=[]:=by rw [← ha2];exact hdf
 rw [ha2]
 show Code.wpS P _ _ a2 (c₀ :: cs) w
 refine wpS_cond hev2 ?_
 refine wpS_of_wp (c:=.skip) (wp_skip ?_)
 refine ⟨hdf2,.returning,by rw [← hu],.tuple #[],?_,⟨_,rfl⟩,rfl,Ext.rfl'⟩
 simp [results,hres]
def Nh (P:Program) (c:Code) (Q:Exit→Act→World→Prop) (a:Act) (w:World):Prop :=
 ∀(b:Frame) (k:List Item) (cs:List Frame),∃e a' w',Q e a' w'∧Arrives P (lone (b.at a (.code c :: .inLoop c :: k)) cs w) b k cs e a' w'
variable {c : Code}
theorem Iy (h:W P n c (Exit.then (Nh P c Q) Q) E w):∀a,Holds n E a→Nh P c Q a w:=by
 unfold W at h
 intro a ha b k cs
 obtain ⟨e,a₁,w₁,hq,harr⟩:=h a ha b (.inLoop c :: k) cs
 cases e with
 | normal =>
  obtain ⟨e₂,a₂,w₂,hq₂,harr₂⟩:=hq b k cs
  exact ⟨e₂,a₂,w₂,hq₂,.of_steps (Steps.trans harr (.one step_inLoop)) harr₂⟩
 | exit id=>exact ⟨_,a₁,w₁,hq,.pass (x:=.inLoop c) rfl (fun _ _=>.inl (by simp)) harr⟩
 | goto l=>exact ⟨_,a₁,w₁,hq,.pass (x:=.inLoop c) rfl (fun _ _=>.inl (by simp)) harr⟩
 | ret=>exact ⟨_,a₁,w₁,hq,.pass (x:=.inLoop c) rfl (fun _ _=>.inl (by simp)) harr⟩
 | panic ch=>exact ⟨_,a₁,w₁,hq,.pass (x:=.inLoop c) rfl (fun _ _=>.inl (by simp)) harr⟩
 | outgrown=>exact ⟨_,a₁,w₁,hq,.pass (x:=.inLoop c) rfl (fun _ _=>.inl (by simp)) harr⟩
theorem Zm (h:W P n c (Exit.then (Nh P c Q) Q) E w):W P n (.loop c) Q E w:=by
 have h1:=Iy h
 unfold W
 intro a ha b k cs
 obtain ⟨e,a',w',hq,harr⟩:=h1 a ha b k cs
 exact ⟨e,a',w',hq,.of_steps (.one step_loop) harr⟩
theorem Zg (h:W P n c (Exit.then (Nh P c Q) Q) E w):Post n (Exit.then (Nh P c Q) Q) .normal E w:=by
 unfold Post
 exact Iy h
def Gf (l:List ByteArray):Prop:=l.Pairwise (fun a b=>blt a b=true)
theorem Gf.get {l:List ByteArray} (h:Gf l) {i j:Nat} {a b:ByteArray} (hi:l[i]?=some a) (hj:l[j]?=some b) (hij:i<j):blt a b=true:=by
 have h1:=AR hi
 have h2:=AR hj
 have:=List.pairwise_iff_getElem.1 h i j h1 h2 hij
 rw [List.getElem?_eq_getElem h1] at hi
 rw [List.getElem?_eq_getElem h2] at hj
 injection hi with hi
 injection hj with hj
 rw [← hi,← hj];exact this
theorem Gf.filter {l:List ByteArray} (h:Gf l) (p:ByteArray→Bool):Gf (l.filter p):=List.Pairwise.filter p h
theorem WT:∀(a b:List UInt8),Op.bytesLess a b=true ↔ a<b
 | [],[]=>by simp [Op.bytesLess]
 | [],_ :: _=>by simp [Op.bytesLess]
 | _ :: _,[]=>by simp [Op.bytesLess]
 | x :: a,y :: b=>by
  simp only [Op.bytesLess,Bool.or_eq_true,decide_eq_true_eq,Bool.and_eq_true,beq_iff_eq,List.cons_lt_cons_iff,WT a b]
theorem XB (a b:List UInt8):a≤b ↔ Op.bytesLess b a=false:=by
 rw [← List.not_lt,← WT];simp
theorem MO (ss:List (List UInt8)):(ss.mergeSort fun x y=>decide (x≤y)).Pairwise (fun a b=>Op.bytesLess b a=false):=by
 have h:=List.pairwise_mergeSort (le:=fun x y:List UInt8=>decide (x≤y)) (fun a b c h1 h2=>by
   simp only [decide_eq_true_eq] at *
   exact Std.le_trans h1 h2) (fun a b=>by
   simp only [Bool.or_eq_true,decide_eq_true_eq]
   exact Std.le_total) ss
 refine h.imp ?_
 intro a b hab
 exact (XB a b).1 (of_decide_eq_true hab)
theorem LQ (ts:List (List UInt8)):(ts.map Af).flatMap Ar.enc=ts.map Go.Proofs.encStr:=by
 induction ts with
 | nil=>rfl
 | cons t ts ih=>simp only [List.map_cons,List.flatMap_cons,ih];rfl
theorem Iz (s:ByteArray):Af s.data.toList=s:=by
 cases s;simp [Af]
theorem RZ (xs:List ByteArray):(xs.map (fun s=>s.data.toList)).map Af=xs:=by
 rw [List.map_map]
 conv=>rhs;rw [← List.map_id xs]
 apply List.map_congr_left
 intro a _
 exact Iz a
end Go.V
namespace Go.Proofs.YtkcolpfanmdmiaaGreatDoor
open Go.V Go.Sort
theorem SG {p:Option Addr} {c B:Nat} {xs:List ByteArray} {w:World} (ho:Go.V.Own w B 9 Ar p c xs) (hl:xs.length≤1000000) :
  Ctr Tryz.prog 197 [.slice p xs.length c] w (fun _ w'=>∃ys,Go.V.Own w' B 9 Ar p c ys∧ys.length=xs.length∧(∀z,z∈ys ↔ z∈xs)∧ys.Pairwise (fun a b=>blt b a=false)∧w.grownBy w' (blk p)):=by
 unfold Ctr
 refine ⟨⟨Tryz.f197,Tryz.func197,by decide,rfl⟩,?_⟩
 by_cases hp:p=none
 ·subst hp
  have h1:=ho.sl.ok.nul rfl
  have h2:=ho.sl.ok.le
  obtain rfl:xs=[]:=List.eq_nil_of_length_eq_zero (by omega)
  refine (AnyM.slices_Sort_string_none Tryz.layS none c w).mono fun e w' ⟨he,hw⟩=>?_
  subst hw
  exact ⟨_,he,[],ho,rfl,fun z=>Iff.rfl,List.Pairwise.nil,⟨rfl,rfl,rfl,Nat.le_refl _,fun _ _ _=>rfl⟩⟩
 ·obtain ⟨gb,cur,rfl,hb,hB,hlen,hcm,hnc,htk⟩:=ho.toBlk hp
  have hsz:Ar.sz=1:=rfl
  rw [hsz,Nat.mul_one] at hlen htk
  have hgl:=hB.lt
  obtain ⟨ss,hss⟩:∃ss,ss=xs.map (fun s=>s.data.toList):=⟨_,rfl⟩
  have hssl:ss.length=xs.length:=by rw [hss];simp
  have hxs:ss.map Af=xs:=by rw [hss];exact RZ xs
  have htk':cur.toArray.toList.take ss.length=ss.map encStr:=by rw [← LQ,hxs,hssl];exact htk
  have hH:=holds_of_block (e:=9) hB htk'
  have:=AnyM.slices_Sort_string Tryz.layS gb 0 c ss w hH hgl (by omega)
  rw [hssl] at this
  refine Calls.mono this fun e w' ⟨he,n,os,hw⟩=>?_
  subst hw
  obtain ⟨ts,hts⟩:∃ts,ts=ss.mergeSort (fun x y=>decide (x≤y)):=⟨_,rfl⟩
  have htl:ts.length=ss.length:=by rw [hts];simp
  refine ⟨_,he,ts.map Af,?_,by rw [List.length_map,htl,hssl],fun z=>?_,?_,?_⟩
  ·have:=ownsRow_sorted (n:=n) (os:=os) (base:=B) (cap:=c) htl hb hB (by rw [hssl];exact hnc) hcm (by simpa using hlen)
   unfold Go.V.Own
   rw [LQ,List.length_map,htl]
   rw [← hts]
   exact this
  ·rw [← hxs,List.mem_map,List.mem_map]
   constructor
   ·rintro ⟨a,ha,e⟩;exact ⟨a,by rw [hts] at ha;exact List.mem_mergeSort.1 ha,e⟩
   ·rintro ⟨a,ha,e⟩;exact ⟨a,by rw [hts];exact List.mem_mergeSort.2 ha,e⟩
  ·rw [List.pairwise_map,hts]
   refine (MO ss).imp ?_
   intro a b h
   exact h
  ·exact grownBy_sorted _
open Go.V
theorem T.p246:PlainT Tryz.prog 246:=PlainT.of Tryz.underlying246 rfl
theorem T.p51:PlainT Tryz.prog 51:=PlainT.of Tryz.underlying51 rfl
end Go.Proofs.YtkcolpfanmdmiaaGreatDoor
namespace Go.V
theorem CX.same {P:Program} {w w':World} {k b m r cnt:Nat} {f:Lit→Option Value} {left:Lit→Bool} (h:CX P w k b r f left cnt m) (hb:w'.heap[b]?=w.heap[b]?) (hr:w'.heap[r]?=w.heap[r]?):CX P w' k b r f left cnt m:=by
 obtain ⟨D,⟨es,clock,since,seen,c0,h1,F,h2,hD,h3,rest⟩,h4⟩:=h
 exact ⟨D,⟨es,clock,since,seen,c0,hb.trans h1,F,h2,hD,hr.trans h3,rest⟩,h4⟩
end Go.V
namespace Go.Proofs.YtkcolpfanmdmiaaGreatDoor
open Go.V
attribute [local irreducible] Blk Own hcell Ao Ab PlainT Ak Ad Ap Aa Ag EqT Au
theorem EC:Maps.Keyed Tryz.prog 9:=Maps.string_keyed Tryz.underlying9
theorem Ui {s:ByteArray} (h:s.size≤4096):keyOf Tryz.prog 9 (.string s)=some (Cm s):=Go.WideMaps.keyOf_string_mk Tryz.underlying9 (Nat.le_trans h (by decide))
theorem RV {mp:Nat} {w:World} :
  Ctr Tryz.prog 330 [.map (some mp)] w (fun v w'=>∃b,v=.func (.func 446) #[] #[.pointer (some (adr (bx b) 0))]∧b=w.heap.size∧Blk w'.heap b 109 [.map (some mp)]∧Ext w w'∧w'.heap.size=w.heap.size+1):=by
 refine Ac Tryz.func330 Tryz.ntmps330 rfl rfl rfl ?_
 repeat' (refine R1 ?_)
 refine Q1 ?_;refine Q8 ?_;intro a1 w1 ha1 hA1 hx1 hs1
 replace hA1:Blk w1.heap a1 109 [.map (some mp)]:=hA1
 repeat' (first|refine R1 ?_|refine R2 ?_|fail)
 refine Kr Tryz.results330 ?_
 exact ⟨a1,rfl,ha1,hA1,hx1,hs1⟩
theorem Pw {o:Option (ByteArray × Value)} {l b1 mp:Nat} {J:Nat→World→Prop} {w:World} (hB:Blk w.heap b1 109 [.map (some mp)]) (hM:Cy Tryz.prog w 9 mp o) (hk:∀s v,o=some (s,v)→s.size≤4096)
  (hJx:∀k w1 w2,J k w1→Ext w1 w2→J k w2) (hJ0:∀r w1 w2,w.heap.size≤r→J 0 w1→w1.grownBy w2 (some r)→J 0 w2)
  (hY:∀s v w3,o=some (s,v)→Ext w w3→J 0 w3→YieldAt Fence.wide 0 Tryz.prog l [Value.string s].toArray w3 (fun e w4=>∃b,e=.returned (.bool b)∧b=true∧J 1 w4∧∀q,(q=mp∨w.heap.size≤q)→q<w3.heap.size→w4.heap[q]?=w3.heap[q]?)) (h0:J 0 w) :
  Ctr Tryz.prog 446 [.func (.yield l) #[] #[],.pointer (some (adr (bx b1) 0))] w (fun _ w'=>J (KX o) w'):=by
 refine Ac Tryz.func446 Tryz.ntmps446 rfl rfl rfl ?_
 repeat' (first|(refine Q1 ?_;first|(refine Q86 Tryz.underlying109 EC hM.mapV ?_;intro w1 cnt hR1 hx1 hz1)|(refine Q3 (hu:=T.p109) ?_))|refine R1 ?_|refine R2 ?_|fail)
 refine Zm ?_
 repeat' (refine R1 ?_)
 refine Q1 ?_
 apply Zae;exact EC;exact rfl;exact hR1;exact rfl;exact rfl;exact rfl
 ·intro hleft
  have ho:o=none:=by
   cases o with
   | none=>rfl
   | some x =>
    obtain ⟨s,v⟩:=x
    have:=hleft (Cm s)
    have e:Gy (some (s,v)) (Cm s)=some v:=by simp only [Gy];exact Ht _ _ _
    rw [e] at this;cases this
  subst ho
  repeat' (first|refine R1 ?_|refine R2 ?_|fail)
  refine Zk Tryz.results446 (vs:=[]) rfl ?_
  exact hJx 0 _ _ h0 hx1
 ·intro key kl v w2 cnt' hkey hleft hf hR2 _ hg2 hz2 hen
  obtain ⟨s',rfl,rfl,_⟩:=Go.WideMaps.string_of_keyOf Tryz.underlying9 hkey
  obtain ⟨v0,ho⟩:∃v0,o=some (s',v0):=by
   cases o with
   | none=>cases hf
   | some x =>
    obtain ⟨s,v0⟩:=x
    simp only [Gy] at hf
    by_cases e:s'=s
    ·exact ⟨v0,by rw [e]⟩
    ·rw [Kw _ _ (GH e)] at hf;cases hf
  subst ho
  have hx2:Ext w w2:=hx1.own hg2 (fun k hk=>by injection hk;omega)
  have hJ2:=hJ0 _ _ _ (Nat.le_refl _) (hJx 0 _ _ h0 hx1) hg2
  have hlt:=hR2.lt
  repeat' (first|(refine Zam 2 rfl rfl rfl ?_)|refine R1 ?_|(refine Q1 ?_;refine Q72 hen ?_)|refine R2 ?_|fail)
  refine ⟨l,[.string s'],fun b w'=>b=true∧J 1 w'∧∀q,(q=mp∨w.heap.size≤q)→q<w2.heap.size→w'.heap[q]?=w2.heap[q]?,rfl,rfl,hY s' v0 w2 rfl hx2 hJ2,?_⟩
  rintro b w3 ⟨rfl,hJ3,hs3⟩
  have hR3:=hR2.same (hs3 mp (.inl rfl) hlt.1) (hs3 _ (.inr (Nat.le_refl _)) hlt.2)
  repeat' (first|refine R1 ?_|refine R2 ?_|fail)
  refine Zg ?_
  refine Zn [(0,.func (.yield l) #[] #[]),(5,.pointer (some ⟨w.heap.size,0,none⟩))] ⟨rfl,rfl,trivial⟩ ?_
  repeat' (refine R1 ?_)
  refine Q1 ?_
  apply Zae;exact EC;exact rfl;exact hR3;exact rfl;exact rfl;exact rfl
  ·intro _
   repeat' (first|refine R1 ?_|refine R2 ?_|fail)
   refine Zk Tryz.results446 (vs:=[]) rfl ?_
   exact hJ3
  ·intro key kl v1 w4 cnt2 hkey2 hleft2 hf2
   exfalso
   obtain ⟨s2,rfl,rfl,_⟩:=Go.WideMaps.string_of_keyOf Tryz.underlying9 hkey2
   simp only [Gy] at hf2 hleft2
   by_cases e:s2=s'
   ·subst e
    simp [Lit.sameKey] at hleft2
   ·rw [Kw _ _ (GH e)] at hf2;cases hf2
end Go.Proofs.YtkcolpfanmdmiaaGreatDoor
namespace Go.V
def OP (B:Nat) (r:CO):Prop:=∀a:Addr,r.p1=some a∨r.p2=some a∨r.p3=some a→B≤a.block
theorem OP.mono {B B':Nat} {r:CO} (h:OP B r) (hb:B'≤B):OP B' r:=fun a ha=>Nat.le_trans hb (h a ha)
theorem Rv.grown {w w':World} {r:CO} {v:Val} {b B:Nat} (h:Rv w.heap r v) (hg:w.grownBy w' (some b)) (hn:OP B r) (hb:b<B):Rv w'.heap r v :=
 ⟨h.kind,h.text,h.n1,h.n2,h.n3,
  h.s1.grown hg (fun a ha _ e=>by have:=hn a (.inl ha);injection e with e;omega),
  h.s2.grown hg (fun a ha _ e=>by have:=hn a (.inr (.inl ha));injection e with e;omega),
  h.s3.grown hg (fun a ha _ e=>by have:=hn a (.inr (.inr ha));injection e with e;omega)⟩
def QY (B:Nat) (r:CO):Prop:=∀a:Addr,r.p1=some a∨r.p2=some a∨r.p3=some a→a.block<B
theorem QY.mono {B B':Nat} {r:CO} (h:QY B r) (hb:B≤B'):QY B' r:=fun a ha=>Nat.lt_of_lt_of_le (h a ha) hb
theorem Rv.grownN {w w':World} {r:CO} {v:Val} {row:Option Nat} (h:Rv w.heap r v) (hg:w.grownBy w' row) (hn:∀a:Addr,r.p1=some a∨r.p2=some a∨r.p3=some a→row≠some a.block):Rv w'.heap r v :=
 ⟨h.kind,h.text,h.n1,h.n2,h.n3,h.s1.grown hg (fun a ha _=>hn a (.inl ha)),h.s2.grown hg (fun a ha _=>hn a (.inr (.inl ha))),h.s3.grown hg (fun a ha _=>hn a (.inr (.inr ha)))⟩
structure Ver where
 stamp:Int
 gone:Bool
 exp:Int
 val:Val
structure Aw where
 stamp:Int
 gone:Bool
 exp:Int
 raw:CO
def AO:Enc Aw:=⟨8,fun r=>[.int .i64 r.stamp,.bool r.gone,.int .i64 r.exp,.int .i64 r.raw.kind,.string r.raw.text,.slice r.raw.p1 r.raw.n1 r.raw.c1,.slice r.raw.p2 r.raw.n2 r.raw.c2,.slice r.raw.p3 r.raw.n3 r.raw.c3],fun _=>rfl,
 fun _ v hv=>by simp at hv;rcases hv with rfl|rfl|rfl|rfl|rfl|rfl|rfl|rfl <;> rfl,by decide⟩
theorem Jy (r:Aw):((AO.enc r).drop 3).take 5=Dl.enc r.raw:=rfl
structure Bv (H:Array Obj) (r:Aw) (v:Ver):Prop where
 stamp:r.stamp=v.stamp
 gone:r.gone=v.gone
 exp:r.exp=v.exp
 val:Rv H r.raw v.val
theorem Bv.ext {w w':World} {r:Aw} {v:Ver} (h:Bv w.heap r v) (hx:Ext w w'):Bv w'.heap r v:=⟨h.stamp,h.gone,h.exp,h.val.ext hx⟩
structure Bb (H:Array Obj) (p:Option Addr) (c:Nat) (rs:List Aw) (vs:List Ver):Prop where
 sl:Sl H AO p c rs
 len:rs.length=vs.length
 get:∀(i:Nat) r v,rs[i]?=some r→vs[i]?=some v→Bv H r v
theorem Bb.ext {w w':World} {p:Option Addr} {c:Nat} {rs:List Aw} {vs:List Ver} (h:Bb w.heap p c rs vs) (hx:Ext w w'):Bb w'.heap p c rs vs:=⟨h.sl.ext hx,h.len,fun i r v h1 h2=>(h.get i r v h1 h2).ext hx⟩
structure Ms (v:Ver):Prop where
 stamp:-9223372036854775808≤v.stamp∧v.stamp≤9223372036854775807
 exp:-9223372036854775808≤v.exp∧v.exp≤9223372036854775807
 val:Fits v.val
def val0:Val:=⟨0,⟨#[]⟩,[],[],[]⟩
structure Vl (v:Ver):Prop where
 lo:1≤v.stamp
 hi:v.stamp≤1152921504606846975
 e0:0≤v.exp
 e1:v.exp≤1099511627776
 gone:v.gone=true→v.exp=0∧v.val=val0
 here:v.gone=false→GR v.val
def QT (vs:List Ver) (i:Nat):Prop:=∀x,vs[i]?=some x→Vl x∧(0<i→∀y,vs[i - 1]?=some y→y.stamp<x.stamp)
def EZ (vs:List Ver):Prop:=∀i,i<vs.length→QT vs i
def FR (vs:List Ver):Prop:=∀(i:Nat) a b,vs[i]?=some a→vs[i+1]?=some b→a.stamp<b.stamp
theorem FR.lt {vs:List Ver} (h:FR vs) {i:Nat} {a:Ver} (hi:vs[i]?=some a):∀(d:Nat) b,vs[i+1+d]?=some b→a.stamp<b.stamp
 | 0,b,hb=>h i a b hi hb
 | d+1,b,hb=>by
  have hl:=AR hb
  obtain ⟨c,hc⟩:=Aj (xs:=vs) (k:=i+1+d) (by omega)
  have h1:=h.lt hi d c hc
  have h2:=h _ c b hc hb
  omega
def GQ (vs:List Ver) (s:Int) (n:Nat):Prop:=n≤vs.length∧(∀i v,i<n→vs[i]?=some v→v.stamp≤s)∧∀i v,n≤i→vs[i]?=some v→s<v.stamp
theorem EZ.rising {vs:List Ver} (h:EZ vs):FR vs:=fun i a b ha hb=>by
 have:=(h (i+1) (AR hb) b hb).2 (by omega) a (by simpa using ha)
 exact this
theorem EZ.one {vs:List Ver} (h:EZ vs) {v:Ver} (hv:v∈vs):Vl v:=by
 obtain ⟨i,hi⟩:=List.getElem?_of_mem hv
 exact (h i (AR hi) v hi).1
structure Eh (v:Ver) (clock:Int):Prop where
 here:v.gone=false
 exp:v.exp=0∨clock<v.exp
structure Ent where
 key:ByteArray
 p:Option Addr
 c:Nat
 vs:List Ver
def AB:Enc Ent:=⟨2,fun e=>[.string e.key,.slice e.p e.vs.length e.c],fun _=>rfl,fun _ v hv=>by simp at hv;rcases hv with rfl|rfl <;> rfl,by decide⟩
structure Al where
 p:Option Addr
 c:Nat
 es:List Ent
def Ay:Enc Al:=⟨1,fun b=>[.slice b.p b.es.length b.c],fun _=>rfl,fun _ v hv=>by simp at hv;rw [hv];rfl,by decide⟩
end Go.V
namespace Go.Proofs.YtkcolpfanmdmiaaGreatDoor
open Go.V
attribute [local irreducible] Blk Own hcell Ao Ab PlainT Ak Ad Ap Aa Ag EqT Au
def ixT (T:Nat):Prop:=T=216∨T=217∨T=219
def IxB (w:World) (k:Nat):Prop:=∃cs T fr,w.heap[k]?=some (.cells cs T fr)∧ixT T
def NoB (w:World) (k:Nat):Prop:=∃cs T fr,w.heap[k]?=some (.cells cs T fr)∧¬ixT T
theorem NoB.not {w:World} {k:Nat} (h:NoB w k):¬IxB w k:=by
 rintro ⟨cs,T,fr,h1,h2⟩
 obtain ⟨cs',T',fr',h3,h4⟩:=h
 rw [h1] at h3
 injection h3 with h3
 injection h3 with _ h3
 exact h4 (h3 ▸ h2)
theorem NoB.lt {w:World} {k:Nat} (h:NoB w k):k<w.heap.size:=by
 obtain ⟨cs',T',fr',h3,h4⟩:=h
 exact (Array.getElem?_eq_some_iff.1 h3).1
theorem NoB.same {w w':World} {k:Nat} (h:NoB w k) (e:w'.heap[k]?=w.heap[k]?):NoB w' k:=by
 obtain ⟨cs',T',fr',h3,h4⟩:=h
 exact ⟨cs',T',fr',by rw [e];exact h3,h4⟩
structure Chg (G:Nat→Prop) (w w':World):Prop where
 os:w'.os=w.os
 tape:w'.tape=w.tape
 output:w'.output=w.output
 size:w.heap.size≤w'.heap.size
 block:∀k,k<w.heap.size→¬G k→w'.heap[k]?=w.heap[k]?
theorem Chg.ext {G:Nat→Prop} {w w':World} (h:Ext w w'):Chg G w w':=⟨h.os,h.tape,h.output,h.size,fun k hk _=>h.block k hk⟩
theorem Chg.grown {G:Nat→Prop} {w w':World} {row:Option Nat} (h:w.grownBy w' row) (hG:∀k,row=some k→G k):Chg G w w':=⟨h.os,h.tape,h.output,h.size,fun k hk hn=>h.block k hk (fun e=>hn (hG k e.symm))⟩
theorem Chg.mono {G G':Nat→Prop} {w w':World} (h:Chg G w w') (hG:∀k,k<w.heap.size→G k→G' k):Chg G' w w':=⟨h.os,h.tape,h.output,h.size,fun k hk hn=>h.block k hk (fun e=>hn (hG k hk e))⟩
theorem Chg.trans {G G':Nat→Prop} {w w1 w2:World} (h:Chg G w w1) (h':Chg G' w1 w2) (hG:∀k,k<w.heap.size→¬G k→¬G' k):Chg G w w2 :=
 ⟨h'.os.trans h.os,h'.tape.trans h.tape,h'.output.trans h.output,Nat.le_trans h.size h'.size,fun k hk hn=>(h'.block k (Nat.lt_of_lt_of_le hk h.size) (hG k hk hn)).trans (h.block k hk hn)⟩
theorem Chg.toExt {G:Nat→Prop} {w0 w w':World} (h0:Ext w0 w) (h:Chg G w w') (hG:∀k,G k→k<w0.heap.size→False):Ext w0 w' :=
 ⟨h.os.trans h0.os,h.tape.trans h0.tape,h.output.trans h0.output,Nat.le_trans h0.size h.size,fun k hk=>(h.block k (Nat.lt_of_lt_of_le hk h0.size) (fun e=>hG k e hk)).trans (h0.block k hk)⟩
abbrev FP (ix:Nat) (w w':World):Prop:=Chg (fun k=>ix≤k∧IxB w k) w w'
theorem FP.trans {ix:Nat} {w w1 w2:World} (h:FP ix w w1) (h':FP ix w1 w2):FP ix w w2 :=
 Chg.trans h h' fun k hk hn hb=>by
  obtain ⟨hb0,cs,T,fr,h1,h2⟩:=hb
  rw [h.block k hk hn] at h1
  exact hn ⟨hb0,cs,T,fr,h1,h2⟩
theorem FP.low {ix:Nat} {w0 w w':World} (h0:Ext w0 w) (h:FP ix w w') (hi:w0.heap.size≤ix):Ext w0 w':=Chg.toExt h0 h (fun k hk hlt=>by have:=hk.1;omega)
theorem FP.toS {ix:Nat} {w w':World} (h:FP ix w w'):Bd [ix,ix] w w':=⟨h.os,h.tape,h.output,h.size,fun k hk hS=>h.block k hk (fun hb=>by have h1:Nat.ble ix k=true:=Nat.ble_eq_true_of_le hb.1;simp [AA,h1] at hS)⟩
variable {α : Type} {e : Enc α} {G : Nat → Prop} {T : Nat} {xs : List α}
theorem Own.chg (h:Go.V.Own w B T e p c xs) (hc:Chg G w w') (hn:∀k,blk p=some k→¬G k):Go.V.Own w' B T e p c xs:=by
 unfold Go.V.Own at h ⊢
 obtain ⟨h1,h2⟩:=h
 refine ⟨h1,?_⟩
 rcases h2 with h2|⟨g,cap,cur,h3,h4,h5,h6⟩
 ·exact .inl h2
 ·refine .inr ⟨g,cap,cur,h3,h4,?_,h6⟩
  rw [hc.block g (Array.getElem?_eq_some_iff.1 h5).1 (hn g (by injection h3 with e1 _ _;rw [e1];rfl))]
  exact h5
theorem Own.noB (h:Go.V.Own w B T e p c xs) (hT:¬ixT T) {k:Nat} (hk:blk p=some k):NoB w k:=by
 obtain ⟨cur,h1⟩:=Go.V.Own.at h hk
 exact ⟨cur,T,_,h1,hT⟩
theorem Own.ixB (h:Go.V.Own w B T e p c xs) (hT:ixT T) {k:Nat} (hk:blk p=some k):IxB w k:=by
 obtain ⟨cur,h1⟩:=Go.V.Own.at h hk
 exact ⟨cur,T,_,h1,hT⟩
theorem Own.chgT {ix:Nat} (h:Go.V.Own w B T e p c xs) (hc:FP ix w w') (hT:¬ixT T):Go.V.Own w' B T e p c xs:=Own.chg h hc fun _ hk hb=>(Own.noB h hT hk).not hb.2
theorem Blk.chg {b t:Nat} {cs:List Value} (h:Blk w.heap b t cs) (hc:Chg G w w') (hn:¬G b):Blk w'.heap b t cs:=by
 have:=hc.block b h.lt hn
 unfold Blk at *
 rw [this];exact h
theorem Blk.noB {b t:Nat} {cs:List Value} (h:Blk w.heap b t cs) (hT:¬ixT t):NoB w b:=⟨_,t,_,(by unfold Blk at h;exact h),hT⟩
theorem Blk.ixB {b t:Nat} {cs:List Value} (h:Blk w.heap b t cs) (hT:ixT t):IxB w b:=⟨_,t,_,(by unfold Blk at h;exact h),hT⟩
theorem Sl.chg (h:Sl w.heap e p c xs) (hc:Chg G w w') (hn:∀a,p=some a→xs≠[]→¬G a.block):Sl w'.heap e p c xs:=by
 refine ⟨h.ok,fun i x hi k v hv=>?_⟩
 have h1:=h.cell i x hi k v hv
 have hx:xs≠[]:=by rintro rfl;simp at hi
 have hlt:=Dm h1
 obtain ⟨a,ha⟩:∃a,p=some a:=by
  cases p with
  | none=>exact absurd (h.ok.nul rfl) (by have:=h.ok.le;have:=AR hi;omega)
  | some a=>exact ⟨a,rfl⟩
 rw [BI (hc.block _ hlt (by rw [GU p a _ ha];exact hn a ha hx))]
 exact h1
structure RvF (w:World) (F:Nat→Prop) (r:CO) (v:Val):Prop where
 kind:r.kind=v.kind
 text:r.text=v.text
 n1:r.n1=v.ps.length
 n2:r.n2=v.ts.length
 n3:r.n3=v.zs.length
 o1:Go.V.Own w 0 285 JP r.p1 r.c1 v.ps
 o2:Go.V.Own w 0 9 Ar r.p2 r.c2 v.ts
 o3:Go.V.Own w 0 287 Ph r.p3 r.c3 v.zs
 f:∀k,blk r.p1=some k∨blk r.p2=some k∨blk r.p3=some k→F k
theorem RvF.at {w:World} {F:Nat→Prop} {r:CO} {v:Val} (h:RvF w F r v):Rv w.heap r v:=⟨h.kind,h.text,h.n1,h.n2,h.n3,h.o1.sl,h.o2.sl,h.o3.sl⟩
theorem RvF.chg {w w':World} {F G:Nat→Prop} {r:CO} {v:Val} (h:RvF w F r v) (hc:Chg G w w') (hn:∀k,F k→¬G k):RvF w' F r v :=
 ⟨h.kind,h.text,h.n1,h.n2,h.n3,Own.chg h.o1 hc (fun k hk=>hn k (h.f k (.inl hk))),Own.chg h.o2 hc (fun k hk=>hn k (h.f k (.inr (.inl hk)))),Own.chg h.o3 hc (fun k hk=>hn k (h.f k (.inr (.inr hk)))),h.f⟩
theorem RvF.mono {w:World} {F F':Nat→Prop} {r:CO} {v:Val} (h:RvF w F r v) (hF:∀k,F k→F' k):RvF w F' r v:=⟨h.kind,h.text,h.n1,h.n2,h.n3,h.o1,h.o2,h.o3,fun k hk=>hF k (h.f k hk)⟩
structure AX (w:World) (F:Nat→Prop) (p:Option Addr) (c:Nat) (rs:List Aw) (vs:List Ver):Prop where
 own:Go.V.Own w 0 171 AO p c rs
 f:∀k,blk p=some k→F k
 len:rs.length=vs.length
 get:∀(i:Nat) r v,rs[i]?=some r→vs[i]?=some v→r.stamp=v.stamp∧r.gone=v.gone∧r.exp=v.exp∧RvF w F r.raw v.val
theorem AX.at {w:World} {F:Nat→Prop} {p:Option Addr} {c:Nat} {rs:List Aw} {vs:List Ver} (h:AX w F p c rs vs):Bb w.heap p c rs vs :=
 ⟨h.own.sl,h.len,fun i r v h1 h2=>by obtain ⟨a,b,d,e⟩:=h.get i r v h1 h2;exact ⟨a,b,d,e.at⟩⟩
theorem AX.chg {w w':World} {F G:Nat→Prop} {p:Option Addr} {c:Nat} {rs:List Aw} {vs:List Ver} (h:AX w F p c rs vs) (hc:Chg G w w') (hn:∀k,F k→¬G k):AX w' F p c rs vs :=
 ⟨Own.chg h.own hc (fun k hk=>hn k (h.f k hk)),h.f,h.len,fun i r v h1 h2=>by obtain ⟨a,b,d,e⟩:=h.get i r v h1 h2;exact ⟨a,b,d,e.chg hc hn⟩⟩
theorem AX.mono {w:World} {F F':Nat→Prop} {p:Option Addr} {c:Nat} {rs:List Aw} {vs:List Ver} (h:AX w F p c rs vs) (hF:∀k,F k→F' k):AX w F' p c rs vs :=
 ⟨h.own,fun k hk=>hF k (h.f k hk),h.len,fun i r v h1 h2=>by obtain ⟨a,b,d,e⟩:=h.get i r v h1 h2;exact ⟨a,b,d,e.mono hF⟩⟩
theorem AX.ext {w w':World} {F:Nat→Prop} {p:Option Addr} {c:Nat} {rs:List Aw} {vs:List Ver} (h:AX w F p c rs vs) (hx:Ext w w'):AX w' F p c rs vs:=h.chg (G:=fun _=>False) (Chg.ext hx) (fun _ _ h=>h)
structure Bz (w:World) (ix:Nat) (F:Nat→Prop) (pb:Option Addr) (cb:Nat) (bl:List Al):Prop where
 box:Blk w.heap ix 216 [.slice pb bl.length cb,.int .i64 ((bl.flatMap Al.es).length:Int)]
 rows:Go.V.Own w 0 217 Ay pb cb bl
 blok:∀b∈bl,Go.V.Own w 0 219 AB b.p b.c b.es∧b.es≠[]
 apart:bl.Pairwise (fun a b=>blk a.p≠blk b.p)
 ent:∀b∈bl,∀e∈b.es,∃rs,AX w F e.p e.c rs e.vs
 typ:∀k,F k→NoB w k
 low:∀k,blk pb=some k∨(∃b∈bl,blk b.p=some k)→ix≤k
theorem Bz.chg {w w':World} {ix:Nat} {F G:Nat→Prop} {pb:Option Addr} {cb:Nat} {bl:List Al} (h:Bz w ix F pb cb bl) (hc:Chg G w w') (hn:∀k,F k→¬G k) (hi:∀k,IxB w k→¬G k):Bz w' ix F pb cb bl :=
 ⟨Blk.chg h.box hc (hi _ (Blk.ixB h.box (.inl rfl))),Own.chg h.rows hc (fun k hk=>hi k (Own.ixB h.rows (.inr (.inl rfl)) hk)),
  fun b hb=>⟨Own.chg (h.blok b hb).1 hc (fun k hk=>hi k (Own.ixB (h.blok b hb).1 (.inr (.inr rfl)) hk)),(h.blok b hb).2⟩,h.apart,
  fun b hb e he=>by obtain ⟨rs,hr⟩:=h.ent b hb e he;exact ⟨rs,hr.chg hc hn⟩,
  fun k hk=>(h.typ k hk).same (hc.block k (h.typ k hk).lt (hn k hk)),h.low⟩
theorem Bz.ext {w w':World} {ix:Nat} {F:Nat→Prop} {pb:Option Addr} {cb:Nat} {bl:List Al} (h:Bz w ix F pb cb bl) (hx:Ext w w'):Bz w' ix F pb cb bl:=h.chg (G:=fun _=>False) (Chg.ext hx) (fun _ _ h=>h) (fun _ _ h=>h)
theorem Bz.bk {w:World} {ix:Nat} {F:Nat→Prop} {pb:Option Addr} {cb:Nat} {bl:List Al} (h:Bz w ix F pb cb bl) {b:Al} (hb:b∈bl):∃k,b.p=bx k:=by
 obtain ⟨h1,h2⟩:=h.blok b hb
 obtain ⟨gb,cur,e,_⟩:=Go.V.Own.toBlk h1 (Go.V.Own.some_of_pos h1 (List.length_pos_iff.2 h2))
 exact ⟨gb,e⟩
def Fu (vs:List Ver):Prop:=vs.length≤1000∧∀v∈vs,v.val.ps.length≤1000000∧v.val.ts.length≤1000000∧v.val.zs.length≤1000000
end Go.Proofs.YtkcolpfanmdmiaaGreatDoor
namespace Go.V
variable {n : Nat} {E0 : Env}
theorem Xm {id:Nat} {l:Array Oper} {b:Bool} {y:Code} (E0:Env) (J:World→Prop) (h1:W P n (.region id l b) (fun e a w'=>e=.normal∧Holds n E0 a∧J w') E w) (h2:∀w',J w'→W P n y Q E0 w'):W P n (.seq (.region id l b) y) Q E w:=by
 unfold W at *
 exact fun a ha=>wp_seq (wp_mono (h1 a ha) (fun e a w' ⟨he,hh,hj⟩=>by subst he;exact h2 w' hj a hh))
theorem Zbf {J:World→Prop} (hE:Env.sub E0 E) (hJ:J w) (hD:Env.dks E0 E:=by exact rfl):Post n (fun e a w'=>e=.normal∧Holds n E0 a∧J w') .normal E w:=by
 unfold Post
 exact fun _ ha=>⟨rfl,ha.sub hE hD,hJ⟩
structure Bg where
 kind:Int
 s:ByteArray
 n:Int
 p:Option Addr
 len:Nat
 cap:Nat
def Aq:Enc Bg:=⟨4,fun r=>[.int .i64 r.kind,.string r.s,.int .i64 r.n,.slice r.p r.len r.cap],fun _=>rfl,fun _ v hv=>by simp at hv;rcases hv with rfl|rfl|rfl|rfl <;> rfl,by decide⟩
inductive Rep where
 | mk (kind:Int) (s:ByteArray) (n:Int) (l:List Rep)
def Rep.kind:Rep→Int | .mk k _ _ _=>k
def Rep.s:Rep→ByteArray | .mk _ s _ _=>s
end Go.V
namespace Go.V
def Rep.n:Rep→Int | .mk _ _ n _=>n
def Rep.l:Rep→List Rep | .mk _ _ _ l=>l
theorem Rep.ext' {a b:Rep} (h1:a.kind=b.kind) (h2:a.s=b.s) (h3:a.n=b.n) (h4:a.l=b.l):a=b:=by
 cases a;cases b
 simp only [Rep.kind,Rep.s,Rep.n,Rep.l] at *
 subst h1 h2 h3 h4
 rfl
def Cc (H:Array Obj):Nat→Bg→Rep→Prop
 | 0,_,_=>False
 | d+1,r,t=>r.kind=t.kind∧r.s=t.s∧r.n=t.n∧r.len=t.l.length∧t.s.size≤maxLen∧(-9223372036854775808≤t.n∧t.n≤9223372036854775807) ∧
  ∃rs:List Bg,Sl H Aq r.p r.cap rs∧rs.length=t.l.length∧∀(i:Nat) r' t',rs[i]?=some r'→t.l[i]?=some t'→Cc H d r' t'
structure Dr (H:Array Obj) (d:Nat) (p:Option Addr) (c:Nat) (rs:List Bg) (ts:List Rep):Prop where
 sl:Sl H Aq p c rs
 len:rs.length=ts.length
 get:∀(i:Nat) r t,rs[i]?=some r→ts[i]?=some t→Cc H d r t
theorem Cc.ext {w w':World} (hx:Ext w w'):∀{d:Nat} {r:Bg} {t:Rep},Cc w.heap d r t→Cc w'.heap d r t
 | 0,_,_,h=>h
 | _+1,_,_,⟨h1,h2,h3,h4,h5,h6,rs,hs,hl,hg⟩=>⟨h1,h2,h3,h4,h5,h6,rs,hs.ext hx,hl,fun i r' t' hr ht=>Cc.ext hx (hg i r' t' hr ht)⟩
theorem Dr.ext {w w':World} {d:Nat} {p:Option Addr} {c:Nat} {rs:List Bg} {ts:List Rep} (h:Dr w.heap d p c rs ts) (hx:Ext w w'):Dr w'.heap d p c rs ts :=
 ⟨h.sl.ext hx,h.len,fun i r t hr ht=>(h.get i r t hr ht).ext hx⟩
theorem Cc.open {H:Array Obj} {d:Nat} {r:Bg} {t:Rep} (h:Cc H d r t):∃e rs,d=e+1∧r.kind=t.kind∧r.s=t.s∧r.n=t.n∧r.len=rs.length∧t.s.size≤maxLen∧(-9223372036854775808≤t.n∧t.n≤9223372036854775807)∧Dr H e r.p r.cap rs t.l:=by
 cases d with
 | zero=>exact h.elim
 | succ d =>
  obtain ⟨h1,h2,h3,h4,h5,h6,rs,hs,hl,hg⟩:=h
  exact ⟨d,rs,rfl,h1,h2,h3,by rw [h4,hl],h5,h6,hs,hl,hg⟩
theorem Cc.mono {H:Array Obj}:∀{d e:Nat} {r:Bg} {t:Rep},Cc H d r t→d≤e→Cc H e r t
 | 0,_,_,_,h,_=>h.elim
 | d+1,0,_,_,_,hl=>by omega
 | d+1,e+1,r,t,⟨h1,h2,h3,h4,h5,h6,rs,hs,hl,hg⟩,hle=>⟨h1,h2,h3,h4,h5,h6,rs,hs,hl,fun i r' t' hr ht=>Cc.mono (hg i r' t' hr ht) (by omega)⟩
def EU (s:ByteArray):Bool:=s.data.toList.all (fun b=>decide (b≠13) && decide (b≠10))
theorem Uw (s:ByteArray):EU s=true ↔ ∀k,k<s.size→BA s k≠13∧BA s k≠10:=by
 unfold EU
 rw [List.all_eq_true]
 constructor
 ·intro h k hk
  have:=h (BA s k) (by
   rw [Dz]
   rw [List.getD_eq_getElem?_getD,List.getElem?_eq_getElem (by rw [← Di];exact hk)]
   exact List.getElem_mem _)
  simpa using this
 ·intro h b hb
  obtain ⟨k,hk⟩:=List.getElem?_of_mem hb
  have hlt:k<s.size:=by rw [Di];exact AR hk
  have:=h k hlt
  rw [Dz,List.getD_eq_getElem?_getD,hk] at this
  simpa using this
def Ca (t:Rep):Bool :=
 decide (0≤t.kind) && decide (t.kind≤5) && (decide (t.kind=5) || t.l.isEmpty) && (decide (t.kind=2) || decide (t.n=0)) && (decide (t.kind=0) || decide (t.kind=1) || decide (t.kind=3) || decide (t.s=⟨#[]⟩)) && (decide (2≤t.kind) || EU t.s)
def Bu:Nat→Rep→Bool
 | 0,t=>Ca t && decide (t.kind≠5)
 | d+1,t=>Ca t && t.l.all (Bu d)
end Go.V
namespace Go.Proofs.YtkcolpfanmdmiaaGreatDoor
open Go.V
attribute [local irreducible] Blk Own hcell Ao Ab PlainT Ak Ad Ap Aa Ag EqT Au
def Bp:List UInt8:=[13,10]
def BC (t:Rep):List UInt8 :=
 if t.kind=0 then 43 :: (t.s.data.toList++Bp)
 else if t.kind=1 then 45 :: (t.s.data.toList++Bp)
 else if t.kind=2 then 58 :: (Lib.itoa t.n++Bp)
 else if t.kind=3 then 36 :: (Lib.itoa t.s.size++Bp++(t.s.data.toList++Bp))
 else if t.kind=4 then 36 :: ([45,49]++Bp)
 else 42 :: (Lib.itoa t.l.length++Bp)
def wT:Nat→Rep→List UInt8
 | 0,t=>BC t
 | d+1,t=>BC t++(if t.kind=5 then t.l.flatMap (wT d) else [])
structure Leaf (t:Rep):Prop where
 lo:0≤t.kind
 hi:t.kind≤5
 list:t.kind≠5→t.l=[]
 num:t.kind≠2→t.n=0
 text:t.kind=2∨t.kind=4∨t.kind=5→t.s=⟨#[]⟩
 line:t.kind=0∨t.kind=1→EU t.s=true
theorem VZ {t:Rep} (h:Ca t=true):Leaf t:=by
 unfold Ca at h
 simp only [Bool.and_eq_true,Bool.or_eq_true,decide_eq_true_eq,List.isEmpty_iff] at h
 obtain ⟨⟨⟨⟨⟨h1,h2⟩,h3⟩,h4⟩,h5⟩,h6⟩:=h
 refine ⟨h1,h2,fun e=>h3.resolve_left e,fun e=>h4.resolve_left e,fun e=>?_,fun e=>?_⟩
 ·rcases h5 with ((h5|h5)|h5)|h5
  ·omega
  ·omega
  ·omega
  ·exact h5
 ·rcases h6 with h6|h6
  ·omega
  ·exact h6
theorem FX {d:Nat} {t:Rep} (h:Bu d t=true):Leaf t:=by
 cases d <;> simp only [Bu,Bool.and_eq_true] at h <;> exact VZ h.1
end Go.Proofs.YtkcolpfanmdmiaaGreatDoor
namespace Go.V
open Go.RowKit
def Itr (w:World) (k:Nat) (s:ByteArray) (pos:Nat):Prop:=w.heap[k]?=some (.stringIter s pos)
theorem Itr.ext {w w':World} {k:Nat} {s:ByteArray} {pos:Nat} (h:Itr w k s pos) (hx:Ext w w'):Itr w' k s pos:=hx.blk h
variable {n : Nat} {l : List Oper}
variable {ty t : TypeId} {r : Int} {s : ByteArray}
theorem Q85 (hu:Ap P t) (h:∀w',Itr w' w.heap.size s 0→Ext w w'→w'.heap.size=w.heap.size+1→G P n ops dr l (E.put d (.pointer (some ⟨w.heap.size,0,none⟩))) w' K) (hx:E.look x=some (.string s):=by exact rfl) (he:Am P dr.1 ⟨d,.range t x,ty,pos,af,g⟩=true:=by exact rfl) (hd:Ah n d=true:=by exact rfl):G1 P n ops dr ⟨d,.range t x,ty,pos,af,g⟩ l E w K :=
 Zs _ (w.alloc (.stringIter s 0)) he hd (fun a ha=>by simp [execOp,ha.eval hx,Instr.range,run_underlying (P:=P) hu,newObj];rfl) (.inr (Ext.alloc Ext.rfl' _).toS)
  (h _ (by unfold Itr;exact heap_alloc_new w _) (Ext.alloc Ext.rfl' _) (by simp))
theorem Q62 {v:Nat × Nat} (hk:Itr w k s m) (hv:Utf8.decode s m=v) (h:∀w',Itr w' k s (m+v.2)→w.grownBy w' (some k)→w'.heap.size=w.heap.size→G P n ops dr l (E.put d (.tuple #[.bool true,.int .i64 (m:Int),.int .i32 (v.1:Int)])) w' K) (hx:E.look x=some (.pointer (some ⟨k,0,none⟩)):=by exact rfl) (hm:m<s.size) (he:Am P dr.1 ⟨d,.next x true,ty,pos,af,g⟩=true:=by exact rfl) (hw:writes dr.1 ⟨d,.next x true,ty,pos,af,g⟩=true:=by exact rfl) (hd:Ah n d=true:=by exact rfl):G1 P n ops dr ⟨d,.next x true,ty,pos,af,g⟩ l E w K:=by
 subst hv
 have hlt:k<w.heap.size:=(Array.getElem?_eq_some_iff.1 hk).1
 refine Zs _ (w.iterAt k s (m+(Utf8.decode s m).2)) he hd (fun a ha=>by simp [execOp,ha.eval hx,Lib.run_next_any_at w k s m ty hk hm]) (.inl hw) (h _ ?_ ?_ (by simp [World.iterAt]))
 ·exact Lib.iterAt_heap w k s m _ hk
 ·refine ⟨rfl,rfl,rfl,by simp [World.iterAt],fun q hq hne=>?_⟩
  simp only [World.iterAt]
  rw [Array.getElem?_setIfInBounds_ne (by intro e;subst e;exact hne rfl)]
theorem Q82 (hk:Itr w k s m) (h:G P n ops dr l (E.put d (.tuple #[.bool false])) w K) (hx:E.look x=some (.pointer (some ⟨k,0,none⟩)):=by exact rfl) (hm:¬m<s.size:=by omega) (he:Am P dr.1 ⟨d,.next x true,ty,pos,af,g⟩=true:=by exact rfl) (hw:writes dr.1 ⟨d,.next x true,ty,pos,af,g⟩=true:=by exact rfl) (hd:Ah n d=true:=by exact rfl):G1 P n ops dr ⟨d,.next x true,ty,pos,af,g⟩ l E w K :=
 Zs _ w he hd (fun a ha=>by simp [execOp,ha.eval hx,Lib.run_next_end_at w k s m ty hk hm]) (.inl hw) h
theorem Q123 {kk:IntKind} {kk':IntKind} (hi:Ao P t kk) (hk:Ap P t') (hx:E.look x=some (.int kk' i)) (hd:Ah n d=true) (h:G P n ops dr l (E.put d (.string (Utf8.encode i))) w K):G1 P n ops dr ⟨d,.convert t t' x,ty,pos,af,g⟩ l E w K :=
 Zd _ hd (fun a ha w' _=>by simp [execOp,convert,ha.eval hx,run_underlying (P:=P) hi,run_underlying (P:=P) hk,Conv.intToString]) h
theorem ZaX {c:Code} (h:W P n c (Exit.noGoto Q) E w):W P n (.scope c) Q E w:=by
 unfold W at *
 exact fun a ha=>wp_scope_straight (h a ha)
theorem ZU (h:Post n Q .ret E w):Post n (Exit.noGoto Q) .ret E w:=by unfold Post at *;exact h
theorem Li {s:ByteArray} {k:Nat} (h:k<s.size):s.get! k=BA s k:=by
 rw [Dz]
 have h':k<s.data.toList.length:=by rw [Array.length_toList];exact h
 have h2:k<s.data.size:=h
 rw [List.getD_eq_getElem?_getD,List.getElem?_eq_getElem h']
 simp only [ByteArray.get!]
 rw [getElem!_pos s.data k h2]
 simp
theorem Fa {s:ByteArray} {k:Nat} (h:k<s.size):BA s k=s[k]'h:=by rw [← Li h];exact get_at s k h
theorem NB (s:ByteArray) (i:Nat) (h:i<s.size) (hb:128≤(BA s i).toNat):128≤(Utf8.decode s i).1∧(Utf8.decode s i).1≤2147483647∧1≤(Utf8.decode s i).2∧i+(Utf8.decode s i).2≤s.size∧∀j,i≤j→j<i+(Utf8.decode s i).2→128≤(BA s j).toNat:=by
 have hg:∀k,i+k<s.size→(s.get! (i+k)).toNat=(BA s (i+k)).toNat:=fun k hk=>by
  rw [Li hk]
 have h0:=hg 0 (by omega)
 rw [Nat.add_zero] at h0
 have hn:¬(s.get! i).toNat<128:=by omega
 have step:∀(d:Nat × Nat),128≤d.1→d.1≤2147483647→1≤d.2→d.2≤4→(∀k,1≤k→k<d.2→i+k<s.size∧(s.get! (i+k)).toNat / 64=2) →
   128≤d.1∧d.1≤2147483647∧1≤d.2∧i+d.2≤s.size∧∀j,i≤j→j<i+d.2→128≤(BA s j).toNat:=by
  intro d a1 a2 a3 a4 a5
  refine ⟨a1,a2,a3,?_,?_⟩
  ·by_cases h1:d.2=1
   ·omega
   ·have:=(a5 (d.2 - 1) (by omega) (by omega)).1;omega
  ·intro j hj1 hj2
   by_cases hji:j=i
   ·rw [hji];exact hb
   ·obtain ⟨b1,b2⟩:=a5 (j - i) (by omega) (by omega)
    have b3:=hg (j - i) b1
    rw [show i+(j - i)=j by omega] at b2 b3
    omega
 have h1:=decode_high s i h (by rw [← Fa h];exact hb)
 have h2:=decode_le s i
 have hw:(Utf8.decode s i).2≤4∧∀k,1≤k→k<(Utf8.decode s i).2→i+k<s.size∧(s.get! (i+k)).toNat / 64=2:=by
  simp only [Utf8.decode,Nat.add_zero,hn,if_false]
  repeat' split
  all_goals refine ⟨by simp,fun k hk1 hk2=>?_⟩
  all_goals simp only [Bool.and_eq_true,decide_eq_true_eq,beq_iff_eq] at *
  all_goals try (exfalso;omega)
  all_goals rcases (show k=1∨k=2∨k=3 by omega) with rfl|rfl|rfl
  all_goals first
   | (exfalso;omega)
   | exact ⟨by omega,by omega⟩
 exact step _ h1.1 h2 h1.2 hw.1 hw.2
theorem Qe (r:Nat) (h:128≤r):2≤(Utf8.encode (r:Int)).size∧(Utf8.encode (r:Int)).size≤4∧128≤(BA (Utf8.encode (r:Int)) ((Utf8.encode (r:Int)).size - 1)).toNat:=by
 unfold Utf8.encode
 simp only
 generalize hc:(if Utf8.valid (r:Int)=true then (r:Int).toNat else Utf8.runeError)=c
 have hc1:128≤c:=by
  rw [← hc];split
  ·omega
  ·decide
 rw [if_neg (by omega)]
 split
 ·refine ⟨Nat.le_of_ble_eq_true rfl,Nat.le_of_ble_eq_true rfl,?_⟩
  show 128≤(UInt8.ofNat (0x80+c % 64)).toNat
  rw [UInt8.toNat_ofNat'];omega
 ·split
  ·refine ⟨Nat.le_of_ble_eq_true rfl,Nat.le_of_ble_eq_true rfl,?_⟩
   show 128≤(UInt8.ofNat (0x80+c % 64)).toNat
   rw [UInt8.toNat_ofNat'];omega
  ·refine ⟨Nat.le_of_ble_eq_true rfl,Nat.le_of_ble_eq_true rfl,?_⟩
   show 128≤(UInt8.ofNat (0x80+c % 64)).toNat
   rw [UInt8.toNat_ofNat'];omega
theorem Zad {f : FuncId} {fn : Func} {s : ByteArray} {tys : Array TypeId} (hf : P.funcs[f]? = some fn) (hname : (fn.name == "runtime.NumGoroutine") = false) (hb : fn.body.isNone = true) (hn : Extern.findNext fn = none) (hfi : Extern.find fn = some Extern.BytealgIndexByte.indexByte)
  (hx:E.look x=some (.string s)) (hy:E.look y=some (.int .u8 i)) (he:Am P dr.1 ⟨d,.call ⟨.value (.func f),#[x,y],tys⟩,ty,pos,af,g⟩=true) (hd:Ah n d=true)
  (h:G P n ops dr l (E.put d (.int .i64 (firstIdx s i.toNat.toUInt8))) w K):G1 P n ops dr ⟨d,.call ⟨.value (.func f),#[x,y],tys⟩,ty,pos,af,g⟩ l E w K:=by
 have hr:(callFunc f #[.string s,.int .u8 i]).run P w=.ok (.value (.int .i64 (firstIdx s i.toNat.toUInt8))) w:=by
  rw [run_callFunc_extern hf hname hb hn hfi,run_indexByte_string]
  rfl
 exact Zs _ w he hd (fun a ha=>by
  have e0:a.eval (.func f)=.func (.func f) #[] #[]:=rfl
  simp [execOp,resolve,Deferred.ofValue,e0,invoke,ha.eval hx,ha.eval hy,hr]) (.inr Bd.rfl') h
theorem Q104 {f : FuncId} {fn : Func} {s : ByteArray} {tys : Array TypeId} (hf : P.funcs[f]? = some fn) (hname : (fn.name == "runtime.NumGoroutine") = false) (hb : fn.body.isNone = true) (hn : Extern.findNext fn = none) (hfi : Extern.find fn = some Extern.BytealgIndexByte.indexByte) (hx : E.look x = some (.string s)) (hy : E.look y = some (.int .u8 i)) (he : Am P dr.1 ⟨d, .call ⟨.value (.func f), #[x, y], tys⟩, ty, pos, af, g⟩ = true) (hd : Ah n d = true) (h : G P n ops dr l (E.put d (.int .i64 (firstIdx s i.toNat.toUInt8))) w K) : G1 P n ops dr ⟨d, .call ⟨.value (.func f), #[x, y], tys⟩, ty, pos, af, g⟩ l E w K := Zad hf hname hb hn hfi hx hy he hd h
def brs:ByteArray:=⟨#[13,10]⟩
def CP (c:UInt8):Bool:=c == 13 || c == 10
theorem Xu (c:UInt8):decide (0≤firstIdx brs c)=CP c:=by
 have key:∀n:Fin 256,decide (0≤firstIdx brs (UInt8.ofNat n.val))=CP (UInt8.ofNat n.val):=by decide +kernel
 have h:=key ⟨c.toNat,UInt8.toNat_lt c⟩
 simpa using h
theorem II (c:UInt8):((c.toNat:Int)).toNat.toUInt8=c:=by simp
end Go.V
namespace Go.Proofs.YtkcolpfanmdmiaaGreatDoor
open Go.V
attribute [local irreducible] Blk Own hcell Ao Ab PlainT Ak Ad Ap Aa Ag EqT Au
theorem ib0:Extern.findNext Tryz.f468=none:=by kernel_rfl
theorem ib1:Extern.find Tryz.f468=some Extern.BytealgIndexByte.indexByte:=by kernel_rfl
theorem PD {s:ByteArray} {i:Int} {w:World}:Ctr Tryz.prog 353 [.string s,.int .u8 i] w (fun v w'=>v=.int .i64 (firstIdx s i.toNat.toUInt8)∧Ext w w'):=by
 refine Ac Tryz.func353 Tryz.ntmps353 rfl rfl rfl ?_
 repeat' (first|refine R1 ?_|(refine Q1 ?_;refine Q104 Tryz.func468 rfl rfl ib0 ib1 rfl rfl rfl rfl ?_)|refine R2 ?_|fail)
 refine Kr Tryz.results353 ?_
 exact ⟨rfl,Kz⟩
theorem Mh {s:ByteArray} {i:Int} {w:World}:Ctr Tryz.prog 511 [.string s,.int .u8 i] w (fun v w'=>v=.int .i64 (firstIdx s i.toNat.toUInt8)∧Ext w w'):=by
 refine Ac Tryz.func511 Tryz.ntmps511 rfl rfl rfl ?_
 repeat' (first|refine R1 ?_|(refine Q1 ?_;(refine Q4 (f:=353) (hc:=PD) ?_;rintro _ w2 ⟨rfl,hx2⟩;refine Kc ?_))|refine R2 ?_|fail)
 refine Kr Tryz.results511 ?_
 exact ⟨rfl,Kz⟩
theorem Hm {s:ByteArray} {k:Nat} (h:k<s.size):s.data.toList[k]?=some (BA s k):=by
 have h':k<s.data.toList.length:=by rw [Array.length_toList];exact h
 have h2:k<s.data.size:=h
 rw [List.getElem?_eq_getElem h',Dz,List.getD_eq_getElem?_getD,List.getElem?_eq_getElem h']
 rfl
theorem validRune {c:Int} {w:World}:Ctr Tryz.prog 512 [.int .i32 c] w (fun v w'=>∃b,v=.bool b∧Ext w w'):=by
 refine Ac Tryz.func512 Tryz.ntmps512 rfl rfl rfl ?_
 repeat' (first|refine R1 ?_|refine R2 ?_|(apply Za;exact rfl;all_goals (intro h;try (exfalso;omega)))|((fail_if_success (refine Q1 ?_));apply Zb;exact rfl;exact rfl;all_goals (intro h;try (exfalso;omega)))|fail)
 all_goals
  refine Kr Tryz.results512 ?_
  exact ⟨_,rfl,Kz⟩
theorem Mw {k:Nat} (h:k<2):10≤(BA brs k).toNat∧(BA brs k).toNat<128:=by
 have key:∀n:Fin 2,10≤(BA brs n.val).toNat∧(BA brs n.val).toNat<128:=by decide
 exact key ⟨k,h⟩
theorem Xt {k:Nat} (h:k<brs.size):Utf8.decode brs k=((BA brs k).toNat,1):=by
 rw [decode_ascii brs k h (by rw [← Fa h];exact (Mw h).2),Fa h]
theorem Qs:brs.size=2:=rfl
theorem Vy {q:Nat} {x:UInt8} (hq:q<2) (hx:128≤x.toNat):firstIdx (brs.extract (q+1) brs.size) x = -1:=by
 have key:∀(m:Fin 2) (n:Fin 128),firstIdx (brs.extract (m.val+1) brs.size) (UInt8.ofNat (128+n.val)) = -1:=by decide +kernel
 have h:=key ⟨q,hq⟩ ⟨x.toNat - 128,by have:=x.toNat_lt;omega⟩
 rw [show 128+(x.toNat - 128)=x.toNat by omega,UInt8.ofNat_toNat] at h
 exact h
theorem Wu {c:Int} {w:World} (h1:128≤c) (h2:c≤2147483647):Ctr Tryz.prog 453 [.string brs,.int .i32 c] w (fun v w'=>v=.int .i64 (-1)∧Ext w w'):=by
 obtain ⟨e1,e2,e3⟩:=Qe c.toNat (by omega)
 rw [Int.toNat_of_nonneg (by omega)] at e1 e2 e3
 have hss:=Qs
 refine Ac Tryz.func453 Tryz.ntmps453 rfl rfl rfl ?_
 by_cases hc:c=65533
 ·repeat' (first|refine R1 ?_|refine R2 ?_|(apply Za;exact rfl;all_goals (intro h;try (exfalso;omega)))|((fail_if_success (refine Q1 ?_));apply Zb;exact rfl;exact rfl;all_goals (intro h;try (exfalso;omega)))|fail)
  refine Q1 ?_
  refine Q85 T.str9 ?_
  intro w2 hi2 hx2 hz2
  repeat' (first|refine R1 ?_|refine R2 ?_|fail)
  refine Zh (ι:=Nat) (fun k=>[(175,.pointer (some ⟨w.heap.size,0,none⟩))]) (fun k w'=>Ext w w'∧Itr w' w.heap.size brs k∧k≤2) (fun k=>2 - k) 0 ⟨rfl,trivial⟩ ⟨hx2,hi2,Nat.zero_le _⟩ ?_
  rintro k w3 ⟨hx3,hi3,hk⟩
  by_cases hlt:k<2
  ·have hd:=Xt (k:=k) (by omega)
   have hb:=Mw hlt
   repeat' (refine R1 ?_)
   refine Q1 ?_
   refine Q62 hi3 hd (s:=brs) (m:=k) (hm:=by omega) ?_
   intro w4 hi4 hg4 hz4
   have hx4:Ext w w4:=hx3.own hg4 (fun k hk=>by injection hk with hk;omega)
   repeat' (first|refine R1 ?_|refine R2 ?_|(apply Za;exact rfl;all_goals (intro h;try (exfalso;omega)))|fail)
   all_goals exact Zc (k+1) ⟨rfl,trivial⟩ ⟨hx4,hi4,by omega⟩ (by omega)
  ·repeat' (refine R1 ?_)
   refine Q1 ?_
   refine Q82 hi3 (s:=brs) (m:=k) ?_
   repeat' (first|refine R1 ?_|refine R2 ?_|fail)
   refine Kr Tryz.results453 ?_
   exact ⟨rfl,Kz⟩
 ·repeat' (first|refine R1 ?_|(refine Q1 ?_;first|(refine Q4 (f:=512) (hc:=validRune) ?_;rintro _ w2 ⟨b,rfl,hx2⟩;refine Kc ?_)|refine Q123 T.i21 T.str9 rfl rfl ?_|refine Q17 T.str9 ?_)|apply ZaX|refine R2 ?_|(apply Za;exact rfl;all_goals (intro h;try (exfalso;omega)))|(apply Zy;exact rfl;all_goals intro h)|((fail_if_success (refine Q1 ?_));apply Zb;exact rfl;exact rfl;all_goals (intro h;try (exfalso;omega)))|fail)
  ·refine Kr Tryz.results453 ?_
   exact ⟨rfl,Kz⟩
  ·generalize Utf8.encode c=rs at e1 e2 e3 ⊢
   obtain ⟨q,hq⟩:∃q,rs.size - 1=q:=⟨_,rfl⟩
   rw [hq] at e3
   refine Zh (ι:=Unit) (fun _=>[(0,.string brs),(7,.string rs),(8,.int .i64 (q:Int)),(9,.int .i64 (q:Int))]) (fun _ w'=>Ext w w') (fun _=>0) () ⟨rfl,rfl,by show some (Value.int .i64 _)=_;congr 2;omega,by show some (Value.int .i64 _)=_;congr 2;omega,trivial⟩ Kz ?_
   rintro _ w3 hx3
   by_cases hq2:q<2
   ·have hsq:=Mw (k:=q) (by omega)
    have hrest:=Vy (q:=q) (x:=BA rs q) (by omega) e3
    have e5:((q:Int)+1).toNat=q+1:=by omega
    have hib:∀w,Ctr Tryz.prog 511 [.string (brs.extract ((q:Int)+1).toNat brs.size),.int .u8 ((BA rs q).toNat:Int)] w (fun v w'=>v=.int .i64 (-1)∧Ext w w'):=fun w =>
     Mh.mono fun v w' ⟨a1,a2⟩=>⟨by rw [a1,II,e5,hrest],a2⟩
    repeat' (first|refine R1 ?_|(refine Q1 ?_;first|(refine Q37 T.str9 (q:=q) (s:=brs) ?_)|(refine Q37 T.str9 (q:=q) (s:=rs) ?_)|(refine Q127 T.str9 rfl rfl rfl (h0:=by omega) (h1:=by omega) ?_)|(refine Q4 (f:=511) (hc:=hib _) ?_;rintro _ w4 ⟨rfl,hx4⟩;refine Kc ?_)|refine Q17 T.str9 ?_)|apply ZaX|apply ZU|refine R2 ?_|(apply Za;exact rfl;all_goals (intro h;try (exfalso;omega)))|refine Zf 1 [] [0,1,2,3,4,5,6] mixed (by decide +kernel) ?_|refine Zf 1 [] [0,1,2,3,4,5,6,7,8] mixed (by decide +kernel) ?_|fail)
    refine Kr Tryz.results453 ?_
    exact ⟨rfl,Kz⟩
   ·repeat' (first|refine R1 ?_|(refine Q1 ?_;refine Q17 T.str9 ?_)|apply ZU|refine R2 ?_|(apply Za;exact rfl;all_goals (intro h;try (exfalso;omega)))|fail)
    all_goals try (exfalso;omega)
    refine Kr Tryz.results453 ?_
    exact ⟨rfl,Kz⟩
theorem Wv {c:UInt8} {ci:Int} {w:World} (hci:ci=(c.toNat:Int)) (h1:c.toNat<128):Ctr Tryz.prog 453 [.string brs,.int .i32 ci] w (fun v w'=>v=.int .i64 (firstIdx brs c)∧Ext w w'):=by
 have hib:∀w,Ctr Tryz.prog 511 [.string brs,.int .u8 ci] w (fun v w'=>v=.int .i64 (firstIdx brs c)∧Ext w w'):=fun w =>
  Mh.mono fun v w' ⟨a1,a2⟩=>⟨by rw [a1,hci,II],a2⟩
 refine Ac Tryz.func453 Tryz.ntmps453 rfl rfl rfl ?_
 repeat' (first|refine R1 ?_|(refine Q1 ?_;first|refine Q97 T.i21 T.i5 ?_|(refine Q4 (f:=511) (hc:=hib _) ?_;rintro _ w4 ⟨rfl,hx4⟩;refine Kc ?_))|refine R2 ?_|(apply Za;exact rfl;all_goals (intro h;try (exfalso;omega)))|((fail_if_success (refine Q1 ?_));apply Zb;exact rfl;exact rfl;all_goals (intro h;try (exfalso;omega)))|fail)
 all_goals try (exfalso;omega)
 refine Kr Tryz.results453 ?_
 exact ⟨rfl,Kz⟩
def DN (l:List UInt8):Bool:=l.any CP
theorem br_lo {c:UInt8} (h:CP c=true):c.toNat<128:=by
 have key:∀n:Fin 256,CP (UInt8.ofNat n.val)=true→n.val<128:=by decide +kernel
 exact key ⟨c.toNat,c.toNat_lt⟩ (by rw [UInt8.ofNat_toNat];exact h)
theorem LG {s:ByteArray} {m m':Nat} (h0:DN (s.data.toList.take m)=false) (hm:m≤m') (hno:∀j,m≤j→j<m'→CP (BA s j)=false) (hs:m'≤s.size):DN (s.data.toList.take m')=false:=by
 have key:∀d,m+d≤m'→DN (s.data.toList.take (m+d))=false:=by
  intro d
  induction d with
  | zero=>intro _;exact h0
  | succ d ih =>
   intro hd
   have h1:=ih (by omega)
   have h2:=Hm (s:=s) (k:=m+d) (by omega)
   rw [show m+(d+1)=(m+d)+1 by omega,List.take_add_one,h2]
   unfold DN at h1 ⊢
   rw [List.any_append,h1]
   have:=hno (m+d) (by omega) (by omega)
   simp [this]
 have:=key (m' - m) (by omega)
 rwa [show m+(m' - m)=m' by omega] at this
theorem RN {s:ByteArray} {m:Nat} (hm:m<s.size) (h:CP (BA s m)=true):DN s.data.toList=true:=by
 unfold DN
 exact List.any_eq_true.2 ⟨BA s m,List.mem_of_getElem? (Hm hm),h⟩
theorem Ra {s:ByteArray} {w:World} (hs:s.size≤8):Ctr Tryz.prog 337 [.string s,.string brs] w (fun v w'=>∃r,v=.int .i64 r∧decide (0≤r)=DN s.data.toList∧Ext w w'):=by
 have hsl:s.data.toList.length=s.size:=by rw [Array.length_toList];rfl
 have hse:¬brs=⟨#[]⟩:=by decide
 have hss:=Qs
 have hsu:∀w,Ctr Tryz.prog 454 [.int .i64 (s.size:Int)] w (fun v w'=>v=.bool false∧Ext w w'):=fun w=>by
  refine Ac Tryz.func454 Tryz.ntmps454 rfl rfl rfl ?_
  repeat' (first|refine R1 ?_|refine R2 ?_|fail)
  refine Kr Tryz.results454 ?_
  exact ⟨by show Value.bool (decide _)=_;congr 1;exact decide_eq_false (by omega),Kz⟩
 refine Ac Tryz.func337 Tryz.ntmps337 rfl rfl rfl ?_
 repeat' (first|refine R1 ?_|(refine Q1 ?_;first|(refine Q4 (f:=454) (hc:=hsu _) ?_;rintro _ w1 ⟨rfl,hx1⟩;refine Kc ?_)|refine Q17 T.str9 ?_)|refine R2 ?_|fail)
 refine Q1 ?_
 refine Q85 T.str9 ?_
 intro w2 hi2 hx2 hz2
 replace hx2:Ext w w2:=hx1.trans hx2
 have hz1:=hx1.size
 obtain ⟨kb,hkb⟩:∃k,w1.heap.size=k:=⟨_,rfl⟩
 rw [hkb] at hi2 hz1 ⊢
 repeat' (first|refine R1 ?_|refine R2 ?_|fail)
 refine Zh (ι:=Nat) (fun m=>[(1,.string brs),(45,.pointer (some ⟨kb,0,none⟩))]) (fun m w'=>Ext w w'∧Itr w' kb s m∧m≤s.size∧DN (s.data.toList.take m)=false) (fun m=>s.size - m) 0 ⟨rfl,rfl,trivial⟩ ⟨hx2,hi2,Nat.zero_le _,rfl⟩ ?_
 rintro m w3 ⟨hx3,hi3,hm,hno⟩
 by_cases hlt:m<s.size
 ·obtain ⟨v,hv⟩:∃v,Utf8.decode s m=v:=⟨_,rfl⟩
  by_cases hb:(BA s m).toNat<128
  ·have hd:v=((BA s m).toNat,1):=by rw [← hv,decode_ascii s m hlt (by rw [← Fa hlt];exact hb),Fa hlt]
   obtain ⟨ci,hci⟩:∃ci:Int,ci=((BA s m).toNat:Int):=⟨_,rfl⟩
   have hsg:=Xu (BA s m)
   repeat' (refine R1 ?_)
   refine Q1 ?_
   refine Q62 hi3 hv (s:=s) (m:=m) (hm:=hlt) ?_
   intro w4 hi4 hg4 hz4
   have hx4:Ext w w4:=hx3.own hg4 (fun k hk=>by injection hk with hk;omega)
   rw [hd] at hi4 ⊢
   simp only at hi4 ⊢
   rw [← hci]
   repeat' (first|refine R1 ?_|(refine Q1 ?_;(refine Q4 (f:=453) (hc:=Wv hci hb) ?_;rintro _ w5 ⟨rfl,hx5⟩;refine Kc ?_))|refine R2 ?_|(apply Za;exact rfl;all_goals (intro h;try (exfalso;omega)))|fail)
   ·refine Kr Tryz.results337 ?_
    refine ⟨m,rfl,?_,Kz⟩
    rw [RN hlt (by rw [← hsg];exact decide_eq_true h)]
    exact decide_eq_true (by omega)
   ·have hns:CP (BA s m)=false:=by rw [← hsg];exact decide_eq_false h
    exact Zc (m+1) ⟨rfl,rfl,trivial⟩ ⟨Kz,hi4.ext (by assumption),by omega,LG hno (by omega) (fun j h1 h2=>by rw [show j=m by omega];exact hns) (by omega)⟩ (by omega)
  ·obtain ⟨d1,d2,d3,d4,d5⟩:=NB s m hlt (by omega)
   rw [hv] at d1 d2 d3 d4 d5
   obtain ⟨ci,hci⟩:∃ci:Int,ci=(v.1:Int):=⟨_,rfl⟩
   repeat' (refine R1 ?_)
   refine Q1 ?_
   refine Q62 hi3 hv (s:=s) (m:=m) (hm:=hlt) ?_
   intro w4 hi4 hg4 hz4
   have hx4:Ext w w4:=hx3.own hg4 (fun k hk=>by injection hk with hk;omega)
   rw [← hci]
   repeat' (first|refine R1 ?_|(refine Q1 ?_;(refine Q4 (f:=453) (hc:=Wu (c:=ci) (by omega) (by omega)) ?_;rintro _ w5 ⟨rfl,hx5⟩;refine Kc ?_))|refine R2 ?_|fail)
   exact Zc (m+v.2) ⟨rfl,rfl,trivial⟩ ⟨Kz,hi4.ext (by assumption),d4,LG hno (by omega) (fun j h1 h2=>by
    cases hc:CP (BA s j) with
    | false=>rfl
    | true=>have h6:=br_lo hc;have h7:=d5 j h1 h2;omega) d4⟩ (by omega)
 ·obtain rfl:m=s.size:=by omega
  rw [List.take_of_length_le (by omega)] at hno
  repeat' (refine R1 ?_)
  refine Q1 ?_
  refine Q82 hi3 (s:=s) (m:=s.size) ?_
  repeat' (first|refine R1 ?_|refine R2 ?_|fail)
  refine Kr Tryz.results337 ?_
  exact ⟨-1,rfl,by rw [hno];rfl,Kz⟩
theorem Tt:∀l:List UInt8,decide (0≤Lib.indexAny l brs.data.toList)=DN l
 | []=>by decide
 | b :: l=>by
  have ih:=Tt l
  have hc:brs.data.toList.contains b=CP b:=by
   show [(13:UInt8),10].contains b=_
   simp [CP];rfl
  have hg:=Lib.indexAny_ge brs.data.toList l
  unfold Lib.indexAny
  rw [hc]
  have e:DN (b :: l)=(CP b || DN l):=rfl
  rw [e]
  cases hb:CP b with
  | true=>simp
  | false =>
   rw [← ih]
   simp only [Bool.false_eq_true,if_false,Bool.false_or]
   by_cases h1:Lib.indexAny l brs.data.toList = -1
   ·rw [h1];decide
   ·rw [if_neg (by simpa using h1)]
    apply decide_eq_decide.2
    omega
theorem h116:((Tryz.prog).info? (Tryz.layIA_ren.t 116)).map (fun i=>(i.zero,i.size))=some (some (.agg (Array.replicate 256 (.bool false))),256):=by kernel_rfl
theorem Tu {s:ByteArray} {w:World} (h8:8<s.size) (hs:s.size≤100000):Ctr Tryz.prog 337 [.string s,.string brs] w (fun v w'=>∃r,v=.int .i64 r∧decide (0≤r)=DN s.data.toList∧Ext w w'):=by
 unfold Ctr
 refine ⟨⟨Tryz.f337,Tryz.func337,by decide,rfl⟩,?_⟩
 refine Calls.mono (Any.strings_IndexAny_long Tryz.layIA (zero_of_info h116).1 (zero_of_info h116).2 s brs w (by decide) h8 (by omega) (by decide) (fun j b hb=>by
  have hlt:j<brs.size:=by
   have:=(List.getElem?_eq_some_iff.1 hb).1
   rw [Array.length_toList] at this;exact this
  have h2:=Hm (s:=brs) (k:=j) hlt
  rw [h2] at hb
  injection hb with hb
  rw [← hb]
  exact (Mw hlt).2)) fun e w' ⟨he,hw⟩=>⟨_,he,⟨_,rfl,Tt _,?_⟩⟩
 rw [hw]
 exact (Ext.alloc Ext.rfl' _).trans (Ext.alloc Ext.rfl' _)
theorem KT {s:ByteArray} {w:World} (hs:s.size≤100000):Ctr Tryz.prog 337 [.string s,.string brs] w (fun v w'=>∃r,v=.int .i64 r∧decide (0≤r)=DN s.data.toList∧Ext w w'):=by
 by_cases h8:s.size≤8
 ·exact Ra h8
 ·exact Tu (by omega) hs
theorem Uv (s:ByteArray):DN s.data.toList=!EU s:=by
 unfold DN EU
 rw [List.not_all_eq_any_not]
 congr 1
 funext b
 unfold CP
 by_cases h1:b=13 <;> by_cases h2:b=10 <;> simp [h1,h2]
theorem OY {s:ByteArray} {w:World} (hs:s.size≤100000):Ctr Tryz.prog 223 [.string s,.string brs] w (fun v w'=>v=.bool (!EU s)∧Ext w w'):=by
 refine Ac Tryz.func223 Tryz.ntmps223 rfl rfl rfl ?_
 repeat' (first|refine R1 ?_|(refine Q1 ?_;(refine Q4 (f:=337) (hc:=KT hs) ?_;rintro _ w1 ⟨r,rfl,hr,hx1⟩;refine Kc ?_))|refine R2 ?_|fail)
 refine Kr Tryz.results223 ?_
 exact ⟨by rw [← Uv];exact congrArg Value.bool hr,Kz⟩
def CZ:List UInt8→Nat
 | []=>0
 | b :: l=>if CP b=true then 0 else CZ l+1
theorem Nt:∀(a:List UInt8) (c:UInt8) (r:List UInt8),(∀b∈a,CP b=false)→CP c=true→CZ (a++c :: r)=a.length
 | [],c,r,_,hc=>by simp [CZ,hc]
 | b :: a,c,r,ha,hc=>by
  have h1:=ha b (by simp)
  have h2:=Nt a c r (fun x hx=>ha x (List.mem_cons_of_mem _ hx)) hc
  simp only [List.cons_append,CZ,h1,h2,List.length_cons]
  simp
theorem Qr:∀(l:List UInt8) (k:Nat),k≤CZ l→∀b∈l.take k,CP b=false
 | [],k,_,b,hb=>by simp at hb
 | c :: l,0,_,b,hb=>by simp at hb
 | c :: l,k+1,h,b,hb=>by
  unfold CZ at h
  split at h
  ·omega
  ·rename_i hc
   rw [List.take_succ_cons] at hb
   rcases List.mem_cons.1 hb with rfl|hb
   ·simpa using hc
   ·exact Qr l k (by omega) b hb
open Classical in
noncomputable def numOf (s:List UInt8):Option Int:=if h:∃n,Cq (Af s) n then some h.choose else none
theorem LJ {s:ByteArray} {m n:Int} (h:Cq s m) (k:Cq s n):m=n:=by
 have e:=h.2.trans k.2.symm
 have e2:=congrArg (fun b:ByteArray=>b.data.toList) e
 simp only [CB] at e2
 exact Ug e2
theorem FW {s:List UInt8} {n:Int} (h:Cq (Af s) n):numOf s=some n:=by
 have hx:∃n,Cq (Af s) n:=⟨n,h⟩
 unfold numOf
 rw [dif_pos hx]
 exact congrArg some (LJ hx.choose_spec h)
theorem Kq {s:List UInt8} (h:∀n,¬Cq (Af s) n):numOf s=none:=by
 unfold numOf
 rw [dif_neg (fun ⟨n,hn⟩=>h n hn)]
inductive Hd where
 | none
 | leaf (t:Rep) (k:Nat)
 | list (n k:Nat)
noncomputable def BS (m:UInt8) (s r:List UInt8) (k:Nat):Hd :=
 if m=43 then .leaf (.mk 0 (Af s) 0 []) k
 else if m=45 then .leaf (.mk 1 (Af s) 0 []) k
 else match numOf s with
  | none=>.none
  | some n =>
   if m=58 then .leaf (.mk 2 ⟨#[]⟩ n []) k
   else if m=36 then
    if n = -1 then .leaf (.mk 4 ⟨#[]⟩ 0 []) k
    else if 0≤n∧n≤(r.length:Int)∧(r.drop n.toNat).take 2=[13,10] then .leaf (.mk 3 (Af (r.take n.toNat)) 0 []) (k+n.toNat+2)
    else .none
   else if m=42∧0≤n then .list n.toNat k
   else .none
noncomputable def Bt (bs:List UInt8):Hd :=
 match bs.take (CZ bs) with
 | []=>.none
 | m :: s=>if (bs.drop (CZ bs)).take 2=[13,10] then BS m s (bs.drop (CZ bs+2)) (CZ bs+2) else .none
def rdL (f:List UInt8→Option (Rep × Nat)):Nat→List UInt8→Option (List Rep × Nat)
 | 0,_=>some ([],0)
 | n+1,bs=>match f bs with
  | none=>none
  | some (t,k)=>match rdL f n (bs.drop k) with
   | none=>none
   | some (l,j)=>some (t :: l,k+j)
noncomputable def rdT:Nat→List UInt8→Option (Rep × Nat)
 | 0,bs=>match Bt bs with
  | .leaf t k=>some (t,k)
  | _=>none
 | d+1,bs=>match Bt bs with
  | .leaf t k=>some (t,k)
  | .list n k=>match rdL (rdT d) n (bs.drop k) with
   | some (l,j)=>some (.mk 5 ⟨#[]⟩ 0 l,k+j)
   | none=>none
  | .none=>none
theorem DW {d k:Nat} {bs:List UInt8} {t:Rep} (h:Bt bs=.leaf t k):rdT d bs=some (t,k):=by
 cases d <;> simp [rdT,h]
theorem UC {d:Nat} {bs:List UInt8} (h:Bt bs=.none):rdT d bs=none:=by
 cases d <;> simp [rdT,h]
theorem UB {d n k:Nat} {bs:List UInt8} (h:Bt bs=.list n k):rdT (d+1) bs=(rdL (rdT d) n (bs.drop k)).map (fun x=>(.mk 5 ⟨#[]⟩ 0 x.1,k+x.2)):=by
 simp only [rdT,h]
 cases rdL (rdT d) n (bs.drop k) with
 | none=>rfl
 | some x=>rfl
theorem Hu {bs:List UInt8} (h:CZ bs=0∨¬(bs.drop (CZ bs)).take 2=[13,10]):Bt bs=.none:=by
 unfold Bt
 split
 ·rfl
 ·rename_i m s e
  rcases h with h|h
  ·rw [h] at e;simp at e
  ·rw [if_neg h]
theorem Od {bs:List UInt8} {m:UInt8} {s:List UInt8} (h1:bs.take (CZ bs)=m :: s) (h2:(bs.drop (CZ bs)).take 2=[13,10]):Bt bs=BS m s (bs.drop (CZ bs+2)) (CZ bs+2):=by
 unfold Bt
 rw [h1]
 simp only
 rw [if_pos h2]
theorem Dg {m:UInt8} {s r:List UInt8} (hm:CP m=false) (hs:∀b∈s,CP b=false):Bt ((m :: (s++Bp))++r)=BS m s r (s.length+3):=by
 have e:(m :: (s++Bp))++r=(m :: s)++13 :: (10 :: r):=by simp [Bp]
 have hb:CZ ((m :: (s++Bp))++r)=s.length+1:=by
  rw [e,Nt _ _ _ (fun b hb=>by
   rcases List.mem_cons.1 hb with rfl|hb
   ·exact hm
   ·exact hs b hb) (by decide)]
  rfl
 have e1:((m :: (s++Bp))++r).take (s.length+1)=m :: s:=by rw [e];exact List.take_left' rfl
 have e2:((m :: (s++Bp))++r).drop (s.length+1)=13 :: 10 :: r:=by rw [e];exact List.drop_left' rfl
 have e3:((m :: (s++Bp))++r).drop (s.length+1+2)=r:=by rw [← List.drop_drop,e2];rfl
 rw [Od (m:=m) (s:=s) (by rw [hb,e1]) (by rw [hb,e2];rfl),hb,e3]
theorem TC {bs:List UInt8} (h:(bs.drop (CZ bs)).take 2=[13,10]):CZ bs+2≤bs.length:=by
 have:=congrArg List.length h
 simp at this
 omega
def NG:Nat→Rep→Prop
 | 0,t=>AC t.n∧t.s.size≤9223372036854775807∧t.l.length≤9223372036854775807
 | d+1,t=>(AC t.n∧t.s.size≤9223372036854775807∧t.l.length≤9223372036854775807)∧∀x∈t.l,NG d x
theorem NG.one {d:Nat} {t:Rep} (h:NG d t):AC t.n∧t.s.size≤9223372036854775807∧t.l.length≤9223372036854775807:=by
 cases d with
 | zero=>exact h
 | succ d=>exact h.1
theorem FV (s:ByteArray):Af s.data.toList=s:=by
 cases s with|mk a=>simp [Af]
theorem Ew (n:Int):∀b∈Lib.itoa n,CP b=false:=by
 intro b hb
 unfold CP
 unfold Lib.itoa at hb
 have key:48≤b.toNat∨b=45→(b == 13 || b == 10)=false:=by
  intro h
  have h1:b≠13:=by rintro rfl;revert h;decide
  have h2:b≠10:=by rintro rfl;revert h;decide
  simp [h1,h2]
 split at hb
 ·rcases List.mem_cons.1 hb with rfl|hb
  ·exact key (.inr rfl)
  ·exact key (.inl (FU _ _ hb))
 ·exact key (.inl (FU _ _ hb))
theorem Fe {n:Int} (h:AC n):numOf (Lib.itoa n)=some n:=by
 refine FW ⟨h,?_⟩
 show (⟨(Lib.itoa n).toArray⟩:ByteArray)=Af _
 unfold Af
 rfl
theorem Hq {s:ByteArray} (h:EU s=true):∀b∈s.data.toList,CP b=false:=by
 intro b hb
 have:=List.all_eq_true.1 h b hb
 simp only [Bool.and_eq_true,decide_eq_true_eq] at this
 unfold CP
 simp [this.1,this.2]
theorem QA {k:Nat} (h:k≤9223372036854775807):AC (k:Int):=by
 unfold AC
 omega
theorem Oe {t:Rep} (ht:Leaf t) (hf:AC t.n∧t.s.size≤9223372036854775807∧t.l.length≤9223372036854775807) (r:List UInt8) :
  Bt (BC t++r)=if t.kind=5 then .list t.l.length (BC t).length else .leaf t (BC t).length:=by
 have t1:=ht.lo
 have t2:=ht.hi
 rcases (show t.kind=0∨t.kind=1∨t.kind=2∨t.kind=3∨t.kind=4∨t.kind=5 by omega) with h|h|h|h|h|h
 ·have e:BC t=43 :: (t.s.data.toList++Bp):=by simp [BC,h]
  rw [e,Dg (by decide) (Hq (ht.line (.inl h))),if_neg (by omega)]
  unfold BS
  rw [if_pos rfl]
  congr 1
  ·exact Rep.ext' h.symm (FV _) (ht.num (by omega)).symm (ht.list (by omega)).symm
  ·simp [Bp]
 ·have e:BC t=45 :: (t.s.data.toList++Bp):=by simp [BC,h]
  rw [e,Dg (by decide) (Hq (ht.line (.inr h))),if_neg (by omega)]
  unfold BS
  rw [if_neg (by decide),if_pos rfl]
  congr 1
  ·exact Rep.ext' h.symm (FV _) (ht.num (by omega)).symm (ht.list (by omega)).symm
  ·simp [Bp]
 ·have e:BC t=58 :: (Lib.itoa t.n++Bp):=by simp [BC,h]
  rw [e,Dg (by decide) (Ew _),if_neg (by omega)]
  unfold BS
  rw [if_neg (by decide),if_neg (by decide),Fe hf.1]
  simp only
  rw [if_pos trivial]
  congr 1
  ·exact Rep.ext' h.symm (ht.text (.inl h)).symm rfl (ht.list (by omega)).symm
  ·simp [Bp]
 ·have e:BC t++r=(36 :: (Lib.itoa t.s.size++Bp))++(t.s.data.toList++(Bp++r)):=by simp [BC,h]
  have el:(BC t).length=(Lib.itoa t.s.size).length+3+t.s.size+2:=by
   simp [BC,h,Bp]
   omega
  rw [e,el,Dg (by decide) (Ew _),if_neg (by omega)]
  unfold BS
  rw [if_neg (by decide),if_neg (by decide),Fe (QA hf.2.1)]
  simp only
  have hl:t.s.data.toList.length=t.s.size:=by rw [Array.length_toList];rfl
  have e2:(t.s.data.toList++(Bp++r)).drop ((t.s.size:Int)).toNat=Bp++r:=by rw [Int.toNat_natCast];exact List.drop_left' hl
  have e3:(t.s.data.toList++(Bp++r)).take ((t.s.size:Int)).toNat=t.s.data.toList:=by rw [Int.toNat_natCast];exact List.take_left' hl
  rw [if_neg (by decide),if_pos trivial,if_neg (by omega),if_pos ⟨by omega,by simp only [List.length_append,hl];push_cast;omega,by rw [e2];rfl⟩,e3,Int.toNat_natCast]
  congr 1
  exact Rep.ext' h.symm (FV _) (ht.num (by omega)).symm (ht.list (by omega)).symm
 ·have e:BC t=36 :: (Lib.itoa (-1)++Bp):=by
   have e:Lib.itoa (-1)=[45,49]:=(by decide +kernel)
   rw [e];simp [BC,h]
  rw [e,Dg (by decide) (Ew _),if_neg (by omega)]
  unfold BS
  rw [if_neg (by decide),if_neg (by decide),Fe (by unfold AC;omega)]
  simp only
  rw [if_neg (by decide),if_pos trivial,if_pos trivial]
  congr 1
  ·exact Rep.ext' h.symm (ht.text (.inr (.inl h))).symm (ht.num (by omega)).symm (ht.list (by omega)).symm
  ·simp [Bp]
 ·have e:BC t=42 :: (Lib.itoa t.l.length++Bp):=by simp [BC,h]
  rw [e,Dg (by decide) (Ew _),if_pos h]
  unfold BS
  rw [if_neg (by decide),if_neg (by decide),Fe (QA hf.2.2)]
  simp only
  rw [if_neg (by decide),if_neg (by decide),if_pos ⟨trivial,by omega⟩]
  congr 1
  simp [Bp]
theorem Xa {f:List UInt8→Option (Rep × Nat)} {g:Rep→List UInt8}:∀(l:List Rep),(∀x∈l,∀r,f (g x++r)=some (x,(g x).length))→∀r,rdL f l.length (l.flatMap g++r)=some (l,(l.flatMap g).length)
 | [],_,r=>rfl
 | x :: l,h,r=>by
  have e:(x :: l).flatMap g++r=g x++(l.flatMap g++r):=by simp
  rw [e]
  simp only [List.length_cons,rdL]
  rw [h x (by simp)]
  simp only
  rw [List.drop_left' rfl,Xa l (fun y hy=>h y (List.mem_cons_of_mem _ hy)) r]
  simp
theorem Xc:∀(d:Nat) (t:Rep),Bu d t=true→NG d t→∀r,rdT d (wT d t++r)=some (t,(wT d t).length)
 | 0,t,ht,hf,r=>by
  have h:=Oe (FX ht) hf.one r
  simp only [Bu,Bool.and_eq_true,decide_eq_true_eq] at ht
  rw [if_neg ht.2] at h
  unfold wT
  exact DW h
 | d+1,t,ht,hf,r=>by
  have hlf:=FX ht
  simp only [Bu,Bool.and_eq_true] at ht
  have e:wT (d+1) t=BC t++(if t.kind=5 then t.l.flatMap (wT d) else []):=rfl
  rw [e,List.append_assoc]
  have h:=Oe hlf hf.one ((if t.kind=5 then t.l.flatMap (wT d) else [])++r)
  by_cases hk:t.kind=5
  ·rw [if_pos hk,if_pos hk] at h
   rw [if_pos hk]
   rw [UB h,List.drop_left' rfl,Xa t.l (fun x hx r=>Xc d x (List.all_eq_true.1 ht.2 x hx) (hf.2 x hx) r)]
   simp only [Option.map_some,List.length_append]
   congr 2
   exact Rep.ext' hk.symm (hlf.text (.inr (.inr hk))).symm (hlf.num (by omega)).symm rfl
  ·rw [if_neg hk,if_neg hk] at h
   rw [if_neg hk]
   rw [DW h]
   simp
inductive WS where
 | more
 | err (e:Int)
 | ok (s:List UInt8) (k:Nat)
def BJ:List UInt8→Nat
 | []=>0
 | b :: l=>if b=10 then 0 else BJ l+1
theorem QL:∀l:List UInt8,BJ l≤l.length
 | []=>Nat.le_refl _
 | b :: l=>by
  unfold BJ
  have:=QL l
  split
  ·omega
  ·simp only [List.length_cons];omega
theorem Oa:∀{l:List UInt8} (m:List UInt8),BJ l<l.length→BJ (l++m)=BJ l
 | [],m,h=>by simp at h
 | b :: l,m,h=>by
  rw [List.cons_append]
  unfold BJ at h ⊢
  split
  ·rfl
  ·rename_i hb
   rw [if_neg hb] at h
   simp only [List.length_cons] at h
   rw [Oa m (by omega)]
theorem QK:∀{l:List UInt8} (m:List UInt8),BJ l=l.length→l.length≤BJ (l++m)
 | [],m,_=>Nat.zero_le _
 | b :: l,m,h=>by
  rw [List.cons_append]
  unfold BJ at h ⊢
  split
  ·rename_i hb;rw [if_pos hb] at h;simp at h
  ·rename_i hb
   rw [if_neg hb] at h
   simp only [List.length_cons] at h ⊢
   have:=QK m (l:=l) (by omega)
   omega
def Dn (cs:List UInt8):WS :=
 if BJ cs<cs.length∧BJ cs<1026 then
  if BJ cs=0∨cs.getD (BJ cs - 1) 0≠13 then .err 10 else .ok (cs.take (BJ cs - 1)) (BJ cs+1)
 else if cs.length<1026 then .more else .err 12
noncomputable def Dy (s:List UInt8) (sign:UInt8) (least most:Int):Except Int Int :=
 match s with
 | []=>.error 10
 | c :: t=>if c=sign then match numOf t with
   | none=>.error 10
   | some n=>if n<least then .error 10 else if most<n then .error 12 else .ok n
  else .error 10
def Dt:List UInt8→List UInt8→List (List UInt8)
 | w,[]=>if w=[] then [] else [w]
 | w,c :: l=>if c=32 then (if w=[] then Dt [] l else w :: Dt [] l) else Dt (w++[c]) l
structure RS where
 left:Nat
 size:Int
 words:List ByteArray
 held:Nat
def rs0:RS:=⟨0,-1,[],0⟩
inductive Stp where
 | stop
 | fault (e:Int)
 | go (s:RS) (k:Nat) (out:List (List ByteArray))
noncomputable def Bf (r:RS) (cs:List UInt8):Stp :=
 if r.left=0 then
  match Dn cs with
  | .more=>.stop
  | .err e=>.fault e
  | .ok s k =>
   if s.head?=some 42 then
    match Dy s 42 1 128 with
    | .error e=>.fault e
    | .ok n=>.go ⟨n.toNat,-1,[],k⟩ k []
   else if 128<(Dt [] s).length then .fault 12
   else .go rs0 k (if Dt [] s=[] then [] else [(Dt [] s).map Af])
 else if r.size<0 then
  match Dn cs with
  | .more=>.stop
  | .err e=>.fault e
  | .ok s k =>
   match Dy s 36 0 4096 with
   | .error e=>.fault e
   | .ok n=>.go { r with size:=n,held:=r.held+k } k []
 else if cs.length<r.size.toNat+2 then .stop
 else if (cs.drop r.size.toNat).take 2=[13,10] then
  if r.left=1 then .go rs0 (r.size.toNat+2) [r.words++[Af (cs.take r.size.toNat)]]
  else .go ⟨r.left - 1,-1,r.words++[Af (cs.take r.size.toNat)],r.held+(r.size.toNat+2)⟩ (r.size.toNat+2) []
 else .fault 10
theorem Jv {cs s:List UInt8} {k:Nat} (h:Dn cs=.ok s k):BJ cs<cs.length∧BJ cs<1026∧BJ cs≠0∧cs.getD (BJ cs - 1) 0=13∧s=cs.take (BJ cs - 1)∧k=BJ cs+1:=by
 unfold Dn at h
 split at h
 ·rename_i h1
  split at h
  ·cases h
  ·rename_i h2
   have h3:BJ cs≠0:=fun e=>h2 (.inl e)
   have h4:cs.getD (BJ cs - 1) 0=13:=Classical.byContradiction fun e=>h2 (.inr e)
   cases h
   exact ⟨h1.1,h1.2,h3,h4,rfl,rfl⟩
 ·split at h <;> cases h
theorem DT {cs s:List UInt8} {k:Nat} (h:Dn cs=.ok s k):k=s.length+2∧k≤cs.length:=by
 obtain ⟨h1,h2,h3,h4,rfl,rfl⟩:=Jv h
 rw [List.length_take]
 omega
theorem NP {cs:List UInt8} {e:Int} (h:Dn cs=.err e):e=10∨e=12:=by
 unfold Dn at h
 split at h
 ·split at h
  ·cases h;exact .inl rfl
  ·cases h
 ·split at h
  ·cases h
  ·cases h;exact .inr rfl
theorem QN {s:List UInt8} {c:UInt8} {a b e:Int} (h:Dy s c a b=.error e):e=10∨e=12:=by
 unfold Dy at h
 split at h
 ·cases h;exact .inl rfl
 ·split at h
  ·split at h
   ·cases h;exact .inl rfl
   ·split at h
    ·cases h;exact .inl rfl
    ·split at h
     ·cases h;exact .inr rfl
     ·cases h
  ·cases h;exact .inl rfl
theorem Kt {s:List UInt8} {c:UInt8} {a b n:Int} (h:Dy s c a b=.ok n):a≤n∧n≤b:=by
 unfold Dy at h
 split at h
 ·cases h
 ·split at h
  ·split at h
   ·cases h
   ·split at h
    ·cases h
    ·split at h
     ·cases h
     ·cases h;omega
  ·cases h
theorem QU {r r':RS} {cs:List UInt8} {k:Nat} {out:List (List ByteArray)} (h:Bf r cs=.go r' k out):2≤k∧k≤cs.length:=by
 unfold Bf at h
 split at h
 ·split at h
  ·cases h
  ·cases h
  ·rename_i s k' hl
   have h1:=DT hl
   split at h
   ·split at h
    ·cases h
    ·cases h;omega
   ·split at h
    ·cases h
    ·cases h;omega
 split at h
 ·split at h
  ·cases h
  ·cases h
  ·rename_i s k' hl
   have h1:=DT hl
   split at h
   ·cases h
   ·cases h;omega
 split at h
 ·cases h
 split at h
 ·split at h <;> (cases h;omega)
 ·cases h
structure Res where
 out:List (List ByteArray)
 st:RS
 rest:List UInt8
 err:Int
noncomputable def runN:Nat→RS→List UInt8→Res
 | 0,r,cs=>⟨[],r,cs,0⟩
 | n+1,r,cs=>match Bf r cs with
  | .stop=>⟨[],r,cs,0⟩
  | .fault e=>⟨[],r,cs,e⟩
  | .go r' k out=>{ runN n r' (cs.drop k) with out:=out++(runN n r' (cs.drop k)).out }
noncomputable def BD (r:RS) (cs:List UInt8):Res:=runN (cs.length+1) r cs
theorem Ma:∀(n m:Nat) (r:RS) (cs:List UInt8),cs.length<n→cs.length<m→runN n r cs=runN m r cs
 | 0,_,_,_,h,_=>by omega
 | _+1,0,_,_,_,h=>by omega
 | n+1,m+1,r,cs,h1,h2=>by
  unfold runN
  cases h:Bf r cs with
  | stop=>rfl
  | fault e=>rfl
  | go r' k out =>
   have hk:=QU h
   simp only
   rw [Ma n m r' (cs.drop k) (by rw [List.length_drop];omega) (by rw [List.length_drop];omega)]
theorem GG {r:RS} {cs:List UInt8} (h:Bf r cs=.stop):BD r cs=⟨[],r,cs,0⟩:=by
 unfold BD runN;rw [h]
theorem DC {r:RS} {cs:List UInt8} {e:Int} (h:Bf r cs=.fault e):BD r cs=⟨[],r,cs,e⟩:=by
 unfold BD runN;rw [h]
theorem run_go {r r':RS} {cs:List UInt8} {k:Nat} {out:List (List ByteArray)} (h:Bf r cs=.go r' k out):BD r cs={ BD r' (cs.drop k) with out:=out++(BD r' (cs.drop k)).out }:=by
 have hk:=QU h
 have e:runN cs.length r' (cs.drop k)=BD r' (cs.drop k):=Ma _ _ _ _ (by rw [List.length_drop];omega) (by omega)
 conv=>lhs;unfold BD runN
 rw [h]
 simp only
 rw [e]
end Go.Proofs.YtkcolpfanmdmiaaGreatDoor
namespace Go.V
open Go.RowKit
variable {n : Nat} {l : List Oper}
variable {ty : TypeId} {k : IntKind} {t' u len : Nat} {b : Bool}
theorem Q55 {r:Int} (h:G P n ops dr l (E.put d (.int k r)) w K) (hx:E.look x=some (.int k i):=by exact rfl) (hy:E.look y=some (.int k j):=by exact rfl) (h0:j≠0:=by decide) (hr:k.wrap (i.tdiv j)=r) (hd:Ah n d=true:=by exact rfl):G1 P n ops dr ⟨d,.binOp .quo t x y t',ty,pos,af,g⟩ l E w K:=by
 subst hr;exact ZaP hx hy h0 hd h
theorem Q10 {q:Nat} (hu:Ab P t u sz by_) (ho:Okp p len c) (h:G P n ops dr l (E.put d (.pointer (some (adr p (q * sz))))) w K) (hx:E.look x=some (.slice p len c):=by exact rfl) (hy:E.look y=some (.int k j):=by exact rfl) (hj:j=(q:Int):=by (first|exact rfl|omega)) (h1:q<len:=by omega) (hd:Ah n d=true:=by exact rfl):G1 P n ops dr ⟨d,.indexAddr t x y,ty,pos,af,g⟩ l E w K:=by
 subst hj;exact ZY hu hx hy ho h1 hd h
theorem Q29 {q:Nat} {r:Nat} (hu:Ab P t u sz by_) (h:G P n ops dr l (E.put d (.slice (AP p c q sz) (r - q) (c - q))) w K) (hx:E.look x=some (.slice p len c):=by exact rfl) (hy:E.look y=some (.int k i):=by exact rfl) (hz:E.look z=some (.int k' j):=by exact rfl) (hi:i=(q:Int):=by omega) (hj:j=(r:Int):=by exact rfl) (hq:q≤r:=by omega) (hr:r≤c:=by omega) (hd:Ah n d=true:=by exact rfl):G1 P n ops dr ⟨d,.slice t x (some y) (some z) none,ty,pos,af,g⟩ l E w K:=by
 subst hi hj;exact ZaG hu hx hy hz hq hr hd h
theorem Q64 {q:Nat} {r:Nat} {mm:Nat} {zz:Operand} {k2:IntKind} {i2:Int} (hu:Ab P t u sz by_) (h:G P n ops dr l (E.put d (.slice (AP p mm q sz) (r - q) (mm - q))) w K) (hx:E.look x=some (.slice p len c):=by exact rfl) (hy:E.look y=some (.int k i):=by exact rfl) (hz:E.look z=some (.int k' j):=by exact rfl) (hm:E.look zz=some (.int k2 i2):=by exact rfl) (e1:i=q:=by exact rfl) (e2:j=r:=by omega) (e3:i2=mm:=by exact rfl) (h1:q≤r:=by omega) (h2:r≤mm:=by omega) (h3:mm≤c:=by omega) (hd:Ah n d=true:=by exact rfl):G1 P n ops dr ⟨d,.slice t x (some y) (some z) (some zz),ty,pos,af,g⟩ l E w K :=
 Zd _ hd (fun a ha w' _=>by
  subst e1 e2 e3
  have a1:(0:Int)≤mm∧(mm:Int)≤c:=by omega
  have a2:(0:Int)≤q∧(q:Int)≤r:=by omega
  have a3:(0:Int)≤r∧(r:Int)≤mm:=by omega
  have hsz:=CV hu w'
  simp only [execOp,Sem.run_bind,Instr.sliceAt,run_underlying hu.1,Result.andThen_ok,Instr.slice,Instr.sliceBounds,Sem.run_pure]
  simp [ha.eval hx,ha.eval hy,ha.eval hz,ha.eval hm,Instr.sliceBound,asIntOf,a1,a2,a3,hsz,AP,h1]
  intro hh;omega) h
theorem ZS {gb xl yl c2:Nat} {cur vs:List Value} {b' o':Nat} (hu:Ab P t u sz by_) (hx:E.look x=some (.slice p xl c)) (hy:E.look y=some (.slice q yl c2)) (hp:p=bx gb) (hq:q=some ⟨b',o',none⟩) (hb:Blk w.heap gb u cur) (hcl:cur.length=c * sz) (hn:vs.length=yl * sz)
  (hsrc:∀j v,vs[j]?=some v→hcell w.heap (adr q j)=some v) (h1:∀v∈vs,v.oneCell'=true) (hroom:xl+yl≤c)
  (he:Am P dr.1 ⟨d,.call ⟨.builtin .append,#[x,y],#[t,t]⟩,ty,pos,af,g⟩=true) (hw:writes dr.1 ⟨d,.call ⟨.builtin .append,#[x,y],#[t,t]⟩,ty,pos,af,g⟩=true) (hd:Ah n d=true)
  (h:∀w',Blk w'.heap gb u (cur.take (xl * sz)++vs++cur.drop (xl * sz+vs.length))→w.grownBy w' (some gb)→w'.heap.size=w.heap.size→G P n ops dr l (E.put d (.slice (bx gb) (xl+yl) c)) w' K):G1 P n ops dr ⟨d,.call ⟨.builtin .append,#[x,y],#[t,t]⟩,ty,pos,af,g⟩ l E w K:=by
 subst hp hq
 obtain ⟨hu1,inf,zz,hi,hs1,hb1,hz,hz2⟩:=hu
 have hr:=run_append_room (P:=P) w t ty u inf hu1 hi gb xl c cur.toArray hb ⟨b',o',none⟩ yl c2 vs (by rw [hs1];exact hn) (fun j v hv=>by rw [addr_add];exact hsrc j v hv) h1 hroom
  (by rw [hs1,hn,← Nat.add_mul,List.size_toArray,hcl];exact Nat.mul_le_mul_right _ hroom)
 rw [hs1] at hr
 exact Zs _ (w.setRow gb (cur.take (xl * sz)++vs++cur.drop (xl * sz+vs.length)).toArray) he hd (fun a ha=>by simp [execOp,resolve,invoke,builtin,ha.eval hx,ha.eval hy,hr]) (.inl hw)
  (h _ (by unfold Blk;exact setRow_heap w gb _ _ u (0,0) hb) (Co w gb _) (by simp))
theorem Ld {zv:Value} (h:∀v∈zv.cells.toList,v.oneCell'=true) (h0:0<zv.cells.size) (m:Nat):∀v∈(Builtin.zeroCells zv.cells m).toList,v.oneCell'=true:=by
 intro v hv
 simp only [Builtin.zeroCells,Array.toList_map,List.mem_map] at hv
 obtain ⟨i,_,rfl⟩:=hv
 have hlt:i % zv.cells.size<zv.cells.size:=Nat.mod_lt _ h0
 apply h
 rw [getElem!_pos zv.cells (i % zv.cells.size) hlt]
 exact Array.getElem_mem_toList _
theorem ZT {gb o T m:Nat} {cur:List Value} {zv:Value} (hu:Ab P t u sz by_) (hx:E.look x=some (.slice p m c)) (hp:0<m→p=some ⟨gb,o,none⟩) (hb:Blk w.heap gb T cur) (hfit:o+m * sz≤cur.length) (hzv:Ag P u zv) (hone:∀v∈zv.cells.toList,v.oneCell'=true) (hzs:zv.cells.size=sz) (hsz:0<sz)
  (he:Am P dr.1 ⟨d,.call ⟨.builtin .clear,#[x],#[t]⟩,ty,pos,af,g⟩=true) (hw:writes dr.1 ⟨d,.call ⟨.builtin .clear,#[x],#[t]⟩,ty,pos,af,g⟩=true) (hd:Ah n d=true)
  (h:∀w' vs,vs.length=m * sz→Blk w'.heap gb T (cur.take o++vs++cur.drop (o+m * sz))→w.grownBy w' (some gb)→w'.heap.size=w.heap.size→G P n ops dr l (E.put d (.tuple #[])) w' K):G1 P n ops dr ⟨d,.call ⟨.builtin .clear,#[x],#[t]⟩,ty,pos,af,g⟩ l E w K:=by
 obtain ⟨hu1,inf,zz,hi,hs1,hb1,hz,hz2⟩:=hu
 by_cases hm:m=0
 ·subst hm
  refine Zs (.tuple #[]) w he hd (fun a ha=>?_) (.inl hw) (h w [] (by simp) (by simpa using hb) ⟨rfl,rfl,rfl,Nat.le_refl _,fun _ _ _=>rfl⟩ rfl)
  cases p <;> simp [execOp,resolve,invoke,builtin,ha.eval hx,Builtin.clear_,run_underlying hu1]
 ·obtain rfl:=hp (by omega)
  have hvl:(Builtin.zeroCells zv.cells m).toList.length=m * sz:=by rw [Array.length_toList,size_zeroCells,hzs]
  have hst:=run_storeCells_at P gb o T (Builtin.zeroCells zv.cells m).toList 0 cur.toArray w hb (by rw [Nat.add_zero,hvl,List.size_toArray];exact hfit) (Ld hone (by omega) m)
  simp only [Nat.add_zero] at hst
  obtain ⟨m',rfl⟩:∃m',m=m'+1:=⟨m - 1,by omega⟩
  refine Zs (.tuple #[]) (w.setRow gb (cur.take o++(Builtin.zeroCells zv.cells (m'+1)).toList++cur.drop (o+(m'+1) * sz)).toArray) he hd (fun a ha=>?_) (.inl hw)
   (h _ _ hvl (by unfold Blk;exact setRow_heap w gb _ _ T (0,0) hb) (Co w gb _) (by simp))
  rw [hvl] at hst
  simp [execOp,resolve,invoke,builtin,ha.eval hx,Builtin.clear_,run_underlying hu1,CW hzv,hst]
variable {t t' u : TypeId} {r : Int}
theorem Q53 (hr:k.wrap (i+j)=r) (h:G P n ops dr l (E.put d (.int k r)) w K) (hx:E.look x=some (.int k i):=by exact rfl) (hy:E.look y=some (.int k j):=by exact rfl) (hd:Ah n d=true:=by exact rfl):G1 P n ops dr ⟨d,.binOp .add t x y t',ty,pos,af,g⟩ l E w K:=by subst hr;exact ZaR hx hy hd h
theorem Q80 (hr:k.wrap (i * j)=r) (h:G P n ops dr l (E.put d (.int k r)) w K) (hx:E.look x=some (.int k i):=by exact rfl) (hy:E.look y=some (.int k j):=by exact rfl) (hd:Ah n d=true:=by exact rfl):G1 P n ops dr ⟨d,.binOp .mul t x y t',ty,pos,af,g⟩ l E w K:=by subst hr;exact ZaS hx hy hd h
theorem Q84 (hr:k.wrap (i.tdiv j)=r) (h:G P n ops dr l (E.put d (.int k r)) w K) (hx:E.look x=some (.int k i):=by exact rfl) (hy:E.look y=some (.int k j):=by exact rfl) (h0:j≠0:=by decide) (hd:Ah n d=true:=by exact rfl):G1 P n ops dr ⟨d,.binOp .quo t x y t',ty,pos,af,g⟩ l E w K:=by subst hr;exact ZaP hx hy h0 hd h
end Go.V
namespace Go.Proofs.YtkcolpfanmdmiaaGreatDoor
open Go.V
attribute [local irreducible] Blk Own hcell Ao Ab PlainT Ak Ad Ap Aa Ag EqT Au
theorem Jt (a b:ByteArray):(a++b).data.toList=a.data.toList++b.data.toList:=by
 rw [ByteArray.data_append,Array.toList_append]
theorem Tv {a b:ByteArray} (h:a.data.toList=b.data.toList):a=b:=by
 cases a;cases b;simp at h;rw [h]
theorem QJ (l:List UInt8):(Af l).data.toList=l:=by simp [Af]
theorem Ck {n:Int} {w:World} (hn:AC n):Ctr Tryz.prog 11 [.int .i64 n] w (fun r w'=>r=.string (CK n)∧Ext w w'):=by
 unfold AC at hn
 obtain ⟨u0,hu0⟩:∃u:Nat,u=n.natAbs:=⟨_,rfl⟩
 refine Ac Tryz.func11 Tryz.ntmps11 rfl rfl rfl ?_
 by_cases hneg:n<0
 ·have hw1:IntKind.u64.wrap n=n+18446744073709551616:=by simp only [IntKind.wrap_u64];omega
  have hw2:IntKind.u64.wrap (0 - (n+18446744073709551616))=(u0:Int):=by simp only [IntKind.wrap_u64];omega
  repeat' (first|refine R1 ?_|(refine Q1 ?_;(refine Q26 T.i3 T.i66 (j:=n+18446744073709551616) (hv:=hw1) ?_))|refine R2 ?_|(apply Za;exact rfl;all_goals (intro h;try (exfalso;omega)))|fail)
  refine Zh (ι:=Nat × ByteArray) (fun y=>[(3,.int .u64 (y.1:Int)),(4,.string ⟨#[45]⟩),(5,.string y.2)]) (fun y w'=>Ext w w'∧y.1≤u0∧Lib.decDigits y.1++y.2.data.toList=Lib.decDigits u0) (fun y=>y.1) (u0,⟨#[]⟩) ⟨(by first|exact congrArg (fun z=>some (Value.int .u64 z)) hw2|exact rfl),rfl,rfl,trivial⟩ ⟨Kz,Nat.le_refl _,List.append_nil _⟩ ?_
  rintro ⟨u,A⟩ w2 ⟨hx,hu,hdec⟩
  simp only at hu hdec
  have hA:A.size≤19:=by
   have h1:=congrArg List.length hdec
   have h2:=DU 18 u0 (by omega)
   rw [List.length_append,Lib.decDigits_length,Lib.decDigits_length,Array.length_toList] at h1
   show A.data.size≤19
   omega
  have hm1:∀c,(Af [c]).size=1:=fun _=>rfl
  have hm2:=hm1 (UInt8.ofNat (48+u % 10))
  refine Zn [(3,.int .u64 (u:Int)),(4,.string ⟨#[45]⟩),(5,.string A)] ⟨rfl,rfl,rfl,trivial⟩ ?_
  obtain ⟨c,hc⟩:∃c:UInt8,c=UInt8.ofNat (48+u % 10):=⟨_,rfl⟩
  rw [← hc] at hm2
  have hct:c.toNat=48+u % 10:=by rw [hc,UInt8.toNat_ofNat'];omega
  have q1:(u:Int).tmod 10=((u % 10:Nat):Int):=by rw [Int.tmod_eq_emod_of_nonneg (by omega)];push_cast;rfl
  have q2:IntKind.u64.wrap (48+((u % 10:Nat):Int))=((48+u % 10:Nat):Int):=by simp only [IntKind.wrap_u64];omega
  have q3:IntKind.u8.wrap ((48+u % 10:Nat):Int)=(c.toNat:Int):=by rw [hct];exact wrap_u8 (by omega) (by omega)
  have q4:IntKind.u64.wrap ((u:Int).tdiv 10)=((u / 10:Nat):Int):=by rw [Int.tdiv_eq_ediv_of_nonneg (by omega)];simp only [IntKind.wrap_u64];omega
  have hms:(Af [c]++A).size=1+A.size:=by rw [ByteArray.size_append,hm2]
  have hsg:((⟨#[45]⟩:ByteArray)).size≤1:=by decide
  have hcl:(Af [c]++A).data.toList=c :: A.data.toList:=by rw [Jt,QJ];rfl
  repeat' (first|refine R1 ?_|(refine Q1 ?_;first|(refine Q87 q1 (r:=((u % 10:Nat):Int)) ?_)|(refine Q53 q2 (r:=((48+u % 10:Nat):Int)) ?_)|(refine Q26 T.i66 T.i5 (j:=(c.toNat:Int)) (hv:=q3) ?_)|(refine Q12 Ai c T.s40 ?_;intro p3 w3 hp3 hs3 _ hx3 hz3)|(refine Q94 T.s40 T.i5 T.str9 hs3 (bs:=[c]) ?_)|(refine Q84 q4 (r:=((u / 10:Nat):Int)) ?_))|refine R2 ?_|(apply Za;exact rfl;all_goals (intro h;try (exfalso;omega)))|fail)
  ·have hu10:u<10:=by omega
   rw [Lib.decDigits_one hu10] at hdec
   have e0:c :: A.data.toList=Lib.decDigits u0:=by rw [← hdec,hc,show u % 10=u by omega];rfl
   have e1:(⟨#[45]⟩:ByteArray)++(Af [c]++A)=CK n:=by
    apply Tv
    rw [Jt,hcl,CB,e0,hu0]
    unfold Lib.itoa
    rw [if_pos hneg];rfl
   refine Kr Tryz.results11 ?_
   exact ⟨congrArg Value.string e1,Kz⟩
  ·have hu10:¬u<10:=by omega
   rw [Lib.decDigits,dif_neg hu10,List.append_assoc] at hdec
   exact Zc (u / 10,Af [c]++A) ⟨rfl,rfl,rfl,trivial⟩ ⟨Kz,by simp only;omega,by simp only;rw [hcl,hc];exact hdec⟩ (by simp only;omega)
 ·have hw1:IntKind.u64.wrap n=(u0:Int):=by simp only [IntKind.wrap_u64];omega
  have hw2:(u0:Int)=(u0:Int):=rfl
  repeat' (first|refine R1 ?_|(refine Q1 ?_;(refine Q26 T.i3 T.i66 (j:=(u0:Int)) (hv:=hw1) ?_))|refine R2 ?_|(apply Za;exact rfl;all_goals (intro h;try (exfalso;omega)))|fail)
  refine Zh (ι:=Nat × ByteArray) (fun y=>[(3,.int .u64 (y.1:Int)),(4,.string ⟨#[]⟩),(5,.string y.2)]) (fun y w'=>Ext w w'∧y.1≤u0∧Lib.decDigits y.1++y.2.data.toList=Lib.decDigits u0) (fun y=>y.1) (u0,⟨#[]⟩) ⟨(by first|exact congrArg (fun z=>some (Value.int .u64 z)) hw2|exact rfl),rfl,rfl,trivial⟩ ⟨Kz,Nat.le_refl _,List.append_nil _⟩ ?_
  rintro ⟨u,A⟩ w2 ⟨hx,hu,hdec⟩
  simp only at hu hdec
  have hA:A.size≤19:=by
   have h1:=congrArg List.length hdec
   have h2:=DU 18 u0 (by omega)
   rw [List.length_append,Lib.decDigits_length,Lib.decDigits_length,Array.length_toList] at h1
   show A.data.size≤19
   omega
  have hm1:∀c,(Af [c]).size=1:=fun _=>rfl
  have hm2:=hm1 (UInt8.ofNat (48+u % 10))
  refine Zn [(3,.int .u64 (u:Int)),(4,.string ⟨#[]⟩),(5,.string A)] ⟨rfl,rfl,rfl,trivial⟩ ?_
  obtain ⟨c,hc⟩:∃c:UInt8,c=UInt8.ofNat (48+u % 10):=⟨_,rfl⟩
  rw [← hc] at hm2
  have hct:c.toNat=48+u % 10:=by rw [hc,UInt8.toNat_ofNat'];omega
  have q1:(u:Int).tmod 10=((u % 10:Nat):Int):=by rw [Int.tmod_eq_emod_of_nonneg (by omega)];push_cast;rfl
  have q2:IntKind.u64.wrap (48+((u % 10:Nat):Int))=((48+u % 10:Nat):Int):=by simp only [IntKind.wrap_u64];omega
  have q3:IntKind.u8.wrap ((48+u % 10:Nat):Int)=(c.toNat:Int):=by rw [hct];exact wrap_u8 (by omega) (by omega)
  have q4:IntKind.u64.wrap ((u:Int).tdiv 10)=((u / 10:Nat):Int):=by rw [Int.tdiv_eq_ediv_of_nonneg (by omega)];simp only [IntKind.wrap_u64];omega
  have hms:(Af [c]++A).size=1+A.size:=by rw [ByteArray.size_append,hm2]
  have hsg:((⟨#[]⟩:ByteArray)).size≤1:=by decide
  have hcl:(Af [c]++A).data.toList=c :: A.data.toList:=by rw [Jt,QJ];rfl
  repeat' (first|refine R1 ?_|(refine Q1 ?_;first|(refine Q87 q1 (r:=((u % 10:Nat):Int)) ?_)|(refine Q53 q2 (r:=((48+u % 10:Nat):Int)) ?_)|(refine Q26 T.i66 T.i5 (j:=(c.toNat:Int)) (hv:=q3) ?_)|(refine Q12 Ai c T.s40 ?_;intro p3 w3 hp3 hs3 _ hx3 hz3)|(refine Q94 T.s40 T.i5 T.str9 hs3 (bs:=[c]) ?_)|(refine Q84 q4 (r:=((u / 10:Nat):Int)) ?_))|refine R2 ?_|(apply Za;exact rfl;all_goals (intro h;try (exfalso;omega)))|fail)
  ·have hu10:u<10:=by omega
   rw [Lib.decDigits_one hu10] at hdec
   have e0:c :: A.data.toList=Lib.decDigits u0:=by rw [← hdec,hc,show u % 10=u by omega];rfl
   have e1:(⟨#[]⟩:ByteArray)++(Af [c]++A)=CK n:=by
    apply Tv
    rw [Jt,hcl,CB,e0,hu0]
    unfold Lib.itoa
    rw [if_neg hneg,show n.natAbs=n.toNat by omega];rfl
   refine Kr Tryz.results11 ?_
   exact ⟨congrArg Value.string e1,Kz⟩
  ·have hu10:¬u<10:=by omega
   rw [Lib.decDigits,dif_neg hu10,List.append_assoc] at hdec
   exact Zc (u / 10,Af [c]++A) ⟨rfl,rfl,rfl,trivial⟩ ⟨Kz,by simp only;omega,by simp only;rw [hcl,hc];exact hdec⟩ (by simp only;omega)
end Go.Proofs.YtkcolpfanmdmiaaGreatDoor
namespace Go.V
theorem ED {s:ByteArray} {k:Nat} (h:k<s.size):s.data.toList[k]?=some (BA s k):=by
 have h':k<s.data.toList.length:=by rw [Array.length_toList];exact h
 have h2:k<s.data.size:=h
 rw [List.getElem?_eq_getElem h',Dz,List.getD_eq_getElem?_getD,List.getElem?_eq_getElem h']
 rfl
end Go.V
namespace Go.Proofs.YtkcolpfanmdmiaaGreatDoor
open Go.V
attribute [local irreducible] Blk Own hcell Ao Ab PlainT Ak Ad Ap Aa Ag EqT Au
theorem OI (acc:Nat) (a b:List UInt8):Cb acc (a++b)=Cb (Cb acc a) b:=by unfold Cb;rw [List.foldl_append]
theorem SA {s:ByteArray} {w:World} (hno:∀n,¬Cq s n):Ctr Tryz.prog 35 [.string s] w (fun r w'=>r=.tuple #[.int .i64 0,.bool false]∧Ext w w'):=by
  have hfit:∀i,AC (IntKind.i64.wrap i):=fun i=>by unfold AC;simp only [IntKind.wrap_i64];omega
  have hne:∀i,¬CK (IntKind.i64.wrap i)=s:=fun i he=>hno _ ⟨hfit i,he⟩
  refine Ac Tryz.func35 Tryz.ntmps35 rfl rfl rfl ?_
  by_cases hl:s.size=0∨20<s.size
  · repeat' (first|refine R1 ?_|(refine Q1 ?_;refine Q17 T.str9 ?_)|refine R2 ?_|(apply Za;exact rfl;all_goals (intro h;try (exfalso;omega)))|((fail_if_success (refine Q1 ?_));apply Zb;exact rfl;exact rfl;all_goals (intro h;try (exfalso;omega)))|fail)
    all_goals
      refine Kr Tryz.results35 ?_
      exact ⟨rfl,Kz⟩
  · repeat' (first|refine R1 ?_|(refine Q1 ?_;first|refine Q17 T.str9 ?_|refine Q91 T.str9 ?_)|refine R2 ?_|(apply Za;exact rfl;all_goals (intro h;try (exfalso;omega)))|((fail_if_success (refine Q1 ?_));apply Zb;exact rfl;exact rfl;all_goals (intro h;try (exfalso;omega)))|fail)
    · refine Zh (ι:=Nat × Int) (fun y=>[(0,.string s),(4,.int .i64 1),(5,.int .u64 y.2),(6,.int .i64 (y.1:Int))]) (fun y w'=>Ext w w'∧y.1≤s.size) (fun y=>s.size - y.1) (1,0) ⟨rfl,rfl,rfl,rfl,trivial⟩ ⟨Kz,by simp only;omega⟩ ?_
      rintro ⟨i,U⟩ w2 ⟨hx,hi⟩
      simp only at hi
      refine Zn [(0,.string s),(4,.int .i64 1),(5,.int .u64 U),(6,.int .i64 (i:Int))] ⟨rfl,rfl,rfl,rfl,trivial⟩ ?_
      by_cases hlt:i<s.size
      · repeat' (first|refine R1 ?_|(refine Q1 ?_;first|(refine Q37 T.str9 (q:=i) ?_)|(refine Q81 (k:=.u64) ?_)|(refine Q67 (k:=.u64) ?_)|(refine Q93 (k:=.u8) ?_)|refine Q26 T.i5 T.i66 ?_|refine Q17 T.str9 ?_)|refine R2 ?_|(apply Za;exact rfl;all_goals (intro h;try (exfalso;omega)))|((fail_if_success (refine Q1 ?_));apply Zb;exact rfl;exact rfl;all_goals (intro h;try (exfalso;omega)))|fail)
        all_goals first
          | exact Zc (i+1,_) ⟨rfl,rfl,rfl,rfl,trivial⟩ ⟨Kz,by simp only;omega⟩ (by simp only;omega)
          | (refine Kr Tryz.results35 ?_
             exact ⟨rfl,Kz⟩)
      · repeat' (first|refine R1 ?_|(refine Q1 ?_;first|refine Q26 T.i66 T.i3 ?_|(refine Q4 (f:=11) (hc:=Ck (hfit _)) ?_;rintro _ w3 ⟨rfl,hx3⟩;refine Kc ?_)|refine Q17 T.str9 ?_)|refine R2 ?_|(apply Za;exact rfl;all_goals (intro h;try (exfalso;omega)))|fail)
        all_goals try exact absurd (by first|assumption|(simpa using h)) (hne _)
        all_goals
          refine Kr Tryz.results35 ?_
          exact ⟨rfl,Kz⟩
    · refine Zh (ι:=Nat × Int) (fun y=>[(0,.string s),(4,.int .i64 0),(5,.int .u64 y.2),(6,.int .i64 (y.1:Int))]) (fun y w'=>Ext w w'∧y.1≤s.size) (fun y=>s.size - y.1) (0,0) ⟨rfl,rfl,rfl,rfl,trivial⟩ ⟨Kz,by simp only;omega⟩ ?_
      rintro ⟨i,U⟩ w2 ⟨hx,hi⟩
      simp only at hi
      refine Zn [(0,.string s),(4,.int .i64 0),(5,.int .u64 U),(6,.int .i64 (i:Int))] ⟨rfl,rfl,rfl,rfl,trivial⟩ ?_
      by_cases hlt:i<s.size
      · repeat' (first|refine R1 ?_|(refine Q1 ?_;first|(refine Q37 T.str9 (q:=i) ?_)|(refine Q81 (k:=.u64) ?_)|(refine Q67 (k:=.u64) ?_)|(refine Q93 (k:=.u8) ?_)|refine Q26 T.i5 T.i66 ?_|refine Q17 T.str9 ?_)|refine R2 ?_|(apply Za;exact rfl;all_goals (intro h;try (exfalso;omega)))|((fail_if_success (refine Q1 ?_));apply Zb;exact rfl;exact rfl;all_goals (intro h;try (exfalso;omega)))|fail)
        all_goals first
          | exact Zc (i+1,_) ⟨rfl,rfl,rfl,rfl,trivial⟩ ⟨Kz,by simp only;omega⟩ (by simp only;omega)
          | (refine Kr Tryz.results35 ?_
             exact ⟨rfl,Kz⟩)
      · repeat' (first|refine R1 ?_|(refine Q1 ?_;first|refine Q26 T.i66 T.i3 ?_|(refine Q4 (f:=11) (hc:=Ck (hfit _)) ?_;rintro _ w3 ⟨rfl,hx3⟩;refine Kc ?_)|refine Q17 T.str9 ?_)|refine R2 ?_|(apply Za;exact rfl;all_goals (intro h;try (exfalso;omega)))|fail)
        all_goals try exact absurd (by first|assumption|(simpa using h)) (hne _)
        all_goals
          refine Kr Tryz.results35 ?_
          exact ⟨rfl,Kz⟩
theorem EJ {s:ByteArray} {m:Int} {w:World} (h0:Cq s m):Ctr Tryz.prog 35 [.string s] w (fun r w'=>r=.tuple #[.int .i64 m,.bool true]∧Ext w w'):=by
 obtain ⟨hf,hs⟩:=h0
 have hsl:s.data.toList=Lib.itoa m:=by rw [← hs,CB]
 have hsz:=Ex hf
 rw [hs] at hsz
 have hlen:s.data.toList.length=s.size:=by rw [Array.length_toList];rfl
 obtain ⟨D,hDe⟩:∃D,D=Lib.decDigits m.natAbs:=⟨_,rfl⟩
 have hval:Cb 0 D=m.natAbs:=by rw [hDe,Nc]
 have hdig:∀c∈D,48≤c.toNat∧c.toNat≤57:=fun c hc=>by rw [hDe] at hc;exact ⟨FU _ c hc,TK _ c hc⟩
 have hpos:0<D.length:=by rw [hDe,Lib.decDigits_length];have:=Lib.nDigits_pos m.natAbs;omega
 unfold AC at hf
 by_cases hneg:m<0
 ·have hsD:s.data.toList=45 :: D:=by rw [hsl,hDe];unfold Lib.itoa;rw [if_pos hneg]
  have hD:s.data.toList.drop 1=D:=by rw [hsD];rfl
  have hDl:s.size=1+D.length:=by rw [← hlen,hsD,List.length_cons];omega
  have hb0:BA s 0=45:=by
   have h1:=ED (s:=s) (k:=0) (by omega)
   rw [hsD] at h1
   injection h1 with h1;exact h1.symm
  have hz1:IntKind.i64.wrap (IntKind.u64.wrap (0 - (m.natAbs:Int)))=m:=by simp only [IntKind.wrap_i64,IntKind.wrap_u64];omega
  have hz2:=hz1
  refine Ac Tryz.func35 Tryz.ntmps35 rfl rfl rfl ?_
  repeat' (first|refine R1 ?_|(refine Q1 ?_;first|(refine Q37 T.str9 (q:=0) ?_;rw [hb0])|refine Q17 T.str9 ?_)|refine R2 ?_|(apply Za;exact rfl;all_goals (intro h;try (exfalso;omega)))|((fail_if_success (refine Q1 ?_));apply Zb;exact rfl;exact rfl;all_goals (intro h;try (exfalso;omega)))|fail)
  refine Zh (ι:=Nat) (fun j=>[(0,.string s),(4,.int .i64 1),(5,.int .u64 (Cb 0 (D.take j):Int)),(6,.int .i64 ((1+j:Nat):Int))]) (fun j w'=>Ext w w'∧j≤D.length) (fun j=>D.length - j) 0 ⟨rfl,rfl,rfl,rfl,trivial⟩ ⟨Kz,Nat.zero_le _⟩ ?_
  rintro j w2 ⟨hx,hj⟩
  by_cases hlt:j<D.length
  ·obtain ⟨c,hc⟩:=Aj hlt
   have hbc:BA s (1+j)=c:=by
    have h1:=ED (s:=s) (k:=1+j) (by omega)
    rw [← List.getElem?_drop,hD,hc] at h1
    injection h1 with h1;exact h1.symm
   have hd:=hdig c (List.mem_of_getElem? hc)
   have hst:D.take (j+1)=D.take j++[c]:=by rw [List.take_add_one,hc];rfl
   have hv1:Cb 0 (D.take (j+1))=Cb 0 (D.take j) * 10+(c.toNat - 48):=by rw [hst,Ib]
   have hv2:Cb 0 (D.take (j+1))≤m.natAbs:=by
    have h3:=Jw (D.drop (j+1)) (Cb 0 (D.take (j+1)))
    rw [← OI,List.take_append_drop,hval] at h3;exact h3
   have q1:IntKind.u64.wrap ((Cb 0 (D.take j):Int) * 10)=((Cb 0 (D.take j) * 10:Nat):Int):=by simp only [IntKind.wrap_u64];omega
   have q2:IntKind.u8.wrap ((c.toNat:Int) - 48)=((c.toNat - 48:Nat):Int):=by rw [wrap_u8 (by omega) (by omega)];omega
   have q3:IntKind.u64.wrap ((c.toNat - 48:Nat):Int)=((c.toNat - 48:Nat):Int):=wrap_u64 (by omega) (by omega)
   have q4:IntKind.u64.wrap (((Cb 0 (D.take j) * 10:Nat):Int)+((c.toNat - 48:Nat):Int))=(Cb 0 (D.take (j+1)):Int):=by rw [hv1] at hv2 ⊢;simp only [IntKind.wrap_u64];omega
   repeat' (first|refine R1 ?_|(refine Q1 ?_;first|(refine Q37 T.str9 (q:=1+j) ?_;rw [hbc])|(refine Q80 q1 (k:=.u64) (r:=((Cb 0 (D.take j) * 10:Nat):Int)) ?_)|(refine Q53 q4 (k:=.u64) (r:=(Cb 0 (D.take (j+1)):Int)) ?_)|(refine Q26 T.i5 T.i66 (j:=((c.toNat - 48:Nat):Int)) (hv:=q3) ?_)|(refine ZaH (k:=.u8) rfl rfl rfl ?_;rw [q2])|refine Q17 T.str9 ?_)|refine R2 ?_|(apply Za;exact rfl;all_goals (intro h;try (exfalso;omega)))|((fail_if_success (refine Q1 ?_));apply Zb;exact rfl;exact rfl;all_goals (intro h;try (exfalso;omega)))|fail)
   all_goals exact Zc (j+1) ⟨rfl,rfl,rfl,rfl,trivial⟩ ⟨Kz,by omega⟩ (by omega)
  ·have hjD:D.take j=D:=List.take_of_length_le (by omega)
   rw [hjD,hval]
   repeat' (first|refine R1 ?_|(refine Q1 ?_;first|(refine Q26 T.i66 T.i3 (j:=m) (hv:=by (first|exact hz1|exact hz2)) ?_)|refine Q26 T.i66 T.i3 ?_|(refine Q4 (f:=11) (hc:=Ck hf) ?_;rintro _ w3 ⟨rfl,hx3⟩;refine Kc ?_)|refine Q17 T.str9 ?_)|refine R2 ?_|(apply Za;exact rfl;all_goals (intro h;try (exfalso;omega)))|fail)
   all_goals try contradiction
   all_goals
    refine Kr Tryz.results35 ?_
    exact ⟨rfl,Kz⟩
 ·have hsD:s.data.toList=D:=by rw [hsl,hDe];unfold Lib.itoa;rw [if_neg hneg];congr 1;omega
  have hD:s.data.toList.drop 0=D:=by rw [hsD];rfl
  have hDl:s.size=0+D.length:=by rw [← hlen,hsD];omega
  obtain ⟨c0,hc0⟩:=Aj hpos
  have hb0:BA s 0=c0:=by
   have h1:=ED (s:=s) (k:=0) (by omega)
   rw [hsD,hc0] at h1
   injection h1 with h1;exact h1.symm
  have hd0:=hdig c0 (List.mem_of_getElem? hc0)
  have hz1:IntKind.i64.wrap (m.natAbs:Int)=m:=by simp only [IntKind.wrap_i64];omega
  have hz2:=hz1
  refine Ac Tryz.func35 Tryz.ntmps35 rfl rfl rfl ?_
  repeat' (first|refine R1 ?_|(refine Q1 ?_;first|(refine Q37 T.str9 (q:=0) ?_;rw [hb0])|refine Q17 T.str9 ?_)|refine R2 ?_|(apply Za;exact rfl;all_goals (intro h;try (exfalso;omega)))|((fail_if_success (refine Q1 ?_));apply Zb;exact rfl;exact rfl;all_goals (intro h;try (exfalso;omega)))|fail)
  refine Zh (ι:=Nat) (fun j=>[(0,.string s),(4,.int .i64 0),(5,.int .u64 (Cb 0 (D.take j):Int)),(6,.int .i64 ((0+j:Nat):Int))]) (fun j w'=>Ext w w'∧j≤D.length) (fun j=>D.length - j) 0 ⟨rfl,rfl,rfl,rfl,trivial⟩ ⟨Kz,Nat.zero_le _⟩ ?_
  rintro j w2 ⟨hx,hj⟩
  by_cases hlt:j<D.length
  ·obtain ⟨c,hc⟩:=Aj hlt
   have hbc:BA s (0+j)=c:=by
    have h1:=ED (s:=s) (k:=0+j) (by omega)
    rw [← List.getElem?_drop,hD,hc] at h1
    injection h1 with h1;exact h1.symm
   have hd:=hdig c (List.mem_of_getElem? hc)
   have hst:D.take (j+1)=D.take j++[c]:=by rw [List.take_add_one,hc];rfl
   have hv1:Cb 0 (D.take (j+1))=Cb 0 (D.take j) * 10+(c.toNat - 48):=by rw [hst,Ib]
   have hv2:Cb 0 (D.take (j+1))≤m.natAbs:=by
    have h3:=Jw (D.drop (j+1)) (Cb 0 (D.take (j+1)))
    rw [← OI,List.take_append_drop,hval] at h3;exact h3
   have q1:IntKind.u64.wrap ((Cb 0 (D.take j):Int) * 10)=((Cb 0 (D.take j) * 10:Nat):Int):=by simp only [IntKind.wrap_u64];omega
   have q2:IntKind.u8.wrap ((c.toNat:Int) - 48)=((c.toNat - 48:Nat):Int):=by rw [wrap_u8 (by omega) (by omega)];omega
   have q3:IntKind.u64.wrap ((c.toNat - 48:Nat):Int)=((c.toNat - 48:Nat):Int):=wrap_u64 (by omega) (by omega)
   have q4:IntKind.u64.wrap (((Cb 0 (D.take j) * 10:Nat):Int)+((c.toNat - 48:Nat):Int))=(Cb 0 (D.take (j+1)):Int):=by rw [hv1] at hv2 ⊢;simp only [IntKind.wrap_u64];omega
   repeat' (first|refine R1 ?_|(refine Q1 ?_;first|(refine Q37 T.str9 (q:=0+j) ?_;rw [hbc])|(refine Q80 q1 (k:=.u64) (r:=((Cb 0 (D.take j) * 10:Nat):Int)) ?_)|(refine Q53 q4 (k:=.u64) (r:=(Cb 0 (D.take (j+1)):Int)) ?_)|(refine Q26 T.i5 T.i66 (j:=((c.toNat - 48:Nat):Int)) (hv:=q3) ?_)|(refine ZaH (k:=.u8) rfl rfl rfl ?_;rw [q2])|refine Q17 T.str9 ?_)|refine R2 ?_|(apply Za;exact rfl;all_goals (intro h;try (exfalso;omega)))|((fail_if_success (refine Q1 ?_));apply Zb;exact rfl;exact rfl;all_goals (intro h;try (exfalso;omega)))|fail)
   all_goals exact Zc (j+1) ⟨rfl,rfl,rfl,rfl,trivial⟩ ⟨Kz,by omega⟩ (by omega)
  ·have hjD:D.take j=D:=List.take_of_length_le (by omega)
   rw [hjD,hval]
   repeat' (first|refine R1 ?_|(refine Q1 ?_;first|(refine Q26 T.i66 T.i3 (j:=m) (hv:=by (first|exact hz1|exact hz2)) ?_)|(refine Q4 (f:=11) (hc:=Ck hf) ?_;rintro _ w3 ⟨rfl,hx3⟩;refine Kc ?_)|refine Q17 T.str9 ?_)|refine R2 ?_|(apply Za;exact rfl;all_goals (intro h;try (exfalso;omega)))|fail)
   all_goals try contradiction
   all_goals
    refine Kr Tryz.results35 ?_
    exact ⟨rfl,Kz⟩
end Go.Proofs.YtkcolpfanmdmiaaGreatDoor
namespace Go.V
def plainO:Obj→Bool
 | .cells _ _ (0,0)=>true
 | _=>false
open Classical in
noncomputable def veil (S:Nat→Prop) (H:Array Obj):Array Obj:=H.mapIdx (fun q o=>if S q∨plainO o=false then .cells #[] 0 (0,0) else o)
theorem BQ {S:Nat→Prop} {H:Array Obj} {a:Addr} {v:Value}:hcell (veil S H) a=some v ↔ ¬S a.block∧(∃o,H[a.block]?=some o∧plainO o=true)∧hcell H a=some v:=by
 unfold hcell veil
 rw [Array.getElem?_mapIdx]
 cases h:H[a.block]? with
 | none=>simp
 | some o =>
  simp only [Option.map_some]
  by_cases hs:S a.block∨plainO o=false
  ·rw [if_pos hs]
   rcases hs with hs|hs
   ·simp [hs]
   ·simp [hs]
  ·rw [if_neg hs]
   have h1:¬S a.block:=fun h=>hs (.inl h)
   have h2:plainO o=true:=by
    cases e:plainO o with
    | true=>rfl
    | false=>exact absurd (.inr e) hs
   simp [h1,h2]
theorem Sl.cells {α:Type} {e:Enc α} {H H':Array Obj} {p:Option Addr} {c:Nat} {xs:List α} (h:∀a v,hcell H a=some v→hcell H' a=some v) (hs:Sl H e p c xs):Sl H' e p c xs :=
 ⟨hs.ok,fun i x hi k v hv=>h _ _ (hs.cell i x hi k v hv)⟩
theorem Cc.cells {H H':Array Obj} (h:∀a v,hcell H a=some v→hcell H' a=some v):∀{d:Nat} {r:Bg} {t:Rep},Cc H d r t→Cc H' d r t
 | 0,_,_,h0=>h0
 | _+1,_,_,⟨h1,h2,h3,h4,h5,h6,rs,hs,hl,hg⟩=>⟨h1,h2,h3,h4,h5,h6,rs,hs.cells h,hl,fun i r' t' hr ht=>Cc.cells h (hg i r' t' hr ht)⟩
theorem Cc.hide {S S':Nat→Prop} {H H':Array Obj} {d:Nat} {r:Bg} {t:Rep} (h:Cc (veil S H) d r t) (hh:∀q,¬S q→q<H.size→¬S' q∧H'[q]?=H[q]?):Cc (veil S' H') d r t :=
 h.cells fun a v hv=>by
  obtain ⟨h1,hp,h2⟩:=BQ.1 hv
  obtain ⟨h3,h4⟩:=hh a.block h1 (Dm h2)
  exact BQ.2 ⟨h3,by rw [h4];exact hp,by rw [BI h4];exact h2⟩
theorem Own.hidden {α:Type} {e:Enc α} {w:World} {B T:Nat} {p:Option Addr} {c:Nat} {xs:List α} {S:Nat→Prop} (ho:Own w B T e p c xs) (hb:∀q,blk p=some q→¬S q):Sl (veil S w.heap) e p c xs:=by
 have h:=ho.sl
 refine ⟨h.ok,fun i x hi k v hv=>?_⟩
 cases hp:p with
 | none =>
  have h1:=h.ok.nul hp
  have h2:=h.ok.le
  have h3:=AR hi
  omega
 | some a =>
  have hk:blk p=some a.block:=by rw [hp];rfl
  obtain ⟨cur,hc⟩:=ho.at hk
  rw [← hp]
  refine BQ.2 ⟨?_,⟨.cells cur T (0,0),?_,rfl⟩,h.cell i x hi k v hv⟩
  ·rw [GU p a _ hp];exact hb _ hk
  ·rw [GU p a _ hp];exact hc
theorem Bd.own {S:List Nat} {w w1 w2:World} {row:Option Nat} (h1:Bd S w w1) (h2:w1.grownBy w2 row) (hr:∀k,row=some k→w.heap.size≤k):Bd S w w2 :=
 ⟨h2.os.trans h1.os,h2.tape.trans h1.tape,h2.output.trans h1.output,Nat.le_trans h1.size h2.size,fun k hk hs=>(h2.block k (Nat.lt_of_lt_of_le hk h1.size) (fun e=>by have:=hr k e.symm;omega)).trans (h1.block k hk hs)⟩
def Av (k:Int) (s:ByteArray) (n:Int):Bg:=⟨k,s,n,none,0,0⟩
end Go.V
namespace Go.Proofs.YtkcolpfanmdmiaaGreatDoor
open Go.V
attribute [local irreducible] Blk Own hcell Ao Ab PlainT Ak Ad Ap Aa Ag EqT Au
theorem Nr (k:Int) (s:ByteArray) (w:World):(Instr.build 33 [(0,Value.int .i64 k),(1,Value.string s)].toArray).run Tryz.prog w=.ok (.agg (Aq.enc (Av k s 0)).toArray) w:=by kernel_rfl
theorem bldKN (k:Int) (n:Int) (w:World):(Instr.build 33 [(0,Value.int .i64 k),(2,Value.int .i64 n)].toArray).run Tryz.prog w=.ok (.agg (Aq.enc (Av k ⟨#[]⟩ n)).toArray) w:=by kernel_rfl
theorem bldK (k:Int) (w:World):(Instr.build 33 [(0,Value.int .i64 k)].toArray).run Tryz.prog w=.ok (.agg (Aq.enc (Av k ⟨#[]⟩ 0)).toArray) w:=by kernel_rfl
theorem Gw {s:ByteArray} {w:World}:Ctr Tryz.prog 194 [.string s] w (fun v w'=>v=.agg (Aq.enc (Av 0 s 0)).toArray∧Ext w w'):=by
 refine Ac Tryz.func194 Tryz.ntmps194 rfl rfl rfl ?_
 repeat' (refine R1 ?_)
 refine Q1 ?_;refine Q7 T.zero33 ?_;intro a1 w1 ha1 hA1 hx1 hs1
 repeat' (first|refine R1 ?_|(refine Q1 ?_;(refine Q20 (.agg (Aq.enc (Av 0 s 0)).toArray) (Nr _ _) ?_))|fail)
 refine Q1 ?_;refine Q5 T.z33 hA1 ?_;intro w2 hA2 hg2 hs2
 replace hA2:Blk w2.heap a1 33 (Aq.enc (Av 0 s 0)):=hA2
 have hx2:Ext w w2:=hx1.own hg2 (fun k hk=>by injection hk;omega)
 repeat' (first|refine R1 ?_|refine R2 ?_|fail)
 refine Ze Tryz.results194 ⟨_,_,_,rfl,rfl,Ae T.a33 (by assumption) rfl,rfl⟩ ?_
 exact ⟨rfl,Kz⟩
theorem JR {s:ByteArray} {w:World}:Ctr Tryz.prog 60 [.string s] w (fun v w'=>v=.agg (Aq.enc (Av 1 s 0)).toArray∧Ext w w'):=by
 refine Ac Tryz.func60 Tryz.ntmps60 rfl rfl rfl ?_
 repeat' (refine R1 ?_)
 refine Q1 ?_;refine Q7 T.zero33 ?_;intro a1 w1 ha1 hA1 hx1 hs1
 repeat' (first|refine R1 ?_|(refine Q1 ?_;(refine Q20 (.agg (Aq.enc (Av 1 s 0)).toArray) (Nr _ _) ?_))|fail)
 refine Q1 ?_;refine Q5 T.z33 hA1 ?_;intro w2 hA2 hg2 hs2
 replace hA2:Blk w2.heap a1 33 (Aq.enc (Av 1 s 0)):=hA2
 have hx2:Ext w w2:=hx1.own hg2 (fun k hk=>by injection hk;omega)
 repeat' (first|refine R1 ?_|refine R2 ?_|fail)
 refine Ze Tryz.results60 ⟨_,_,_,rfl,rfl,Ae T.a33 (by assumption) rfl,rfl⟩ ?_
 exact ⟨rfl,Kz⟩
theorem XF {s:ByteArray} {w:World}:Ctr Tryz.prog 195 [.string s] w (fun v w'=>v=.agg (Aq.enc (Av 3 s 0)).toArray∧Ext w w'):=by
 refine Ac Tryz.func195 Tryz.ntmps195 rfl rfl rfl ?_
 repeat' (refine R1 ?_)
 refine Q1 ?_;refine Q7 T.zero33 ?_;intro a1 w1 ha1 hA1 hx1 hs1
 repeat' (first|refine R1 ?_|(refine Q1 ?_;(refine Q20 (.agg (Aq.enc (Av 3 s 0)).toArray) (Nr _ _) ?_))|fail)
 refine Q1 ?_;refine Q5 T.z33 hA1 ?_;intro w2 hA2 hg2 hs2
 replace hA2:Blk w2.heap a1 33 (Aq.enc (Av 3 s 0)):=hA2
 have hx2:Ext w w2:=hx1.own hg2 (fun k hk=>by injection hk;omega)
 repeat' (first|refine R1 ?_|refine R2 ?_|fail)
 refine Ze Tryz.results195 ⟨_,_,_,rfl,rfl,Ae T.a33 (by assumption) rfl,rfl⟩ ?_
 exact ⟨rfl,Kz⟩
theorem Wh {w:World}:Ctr Tryz.prog 368 [] w (fun v w'=>v=.agg (Aq.enc (Av 4 ⟨#[]⟩ 0)).toArray∧Ext w w'):=by
 refine Ac Tryz.func368 Tryz.ntmps368 rfl rfl rfl ?_
 repeat' (refine R1 ?_)
 refine Q1 ?_;refine Q7 T.zero33 ?_;intro a1 w1 ha1 hA1 hx1 hs1
 repeat' (first|(refine Q1 ?_;(refine Q20 (.agg (Aq.enc (Av 4 ⟨#[]⟩ 0)).toArray) (bldK _) ?_))|refine R1 ?_|fail)
 refine Q1 ?_;refine Q5 T.z33 hA1 ?_;intro w2 hA2 hg2 hs2
 replace hA2:Blk w2.heap a1 33 (Aq.enc (Av 4 ⟨#[]⟩ 0)):=hA2
 have hx2:Ext w w2:=hx1.own hg2 (fun k hk=>by injection hk;omega)
 repeat' (first|refine R1 ?_|refine R2 ?_|fail)
 refine Ze Tryz.results368 ⟨_,_,_,rfl,rfl,Ae T.a33 (by assumption) rfl,rfl⟩ ?_
 exact ⟨rfl,Kz⟩
end Go.Proofs.YtkcolpfanmdmiaaGreatDoor
namespace Go.V
end Go.V
namespace Go.Proofs.YtkcolpfanmdmiaaGreatDoor
open Go.V
attribute [local irreducible] Blk Own hcell Ao Ab PlainT Ak Ad Ap Aa Ag EqT Au
structure Head (t:Rep):Prop where
 lo:0≤t.kind
 hi:t.kind≤5
 list:t.kind≠5→t.l.length=0
 num:t.kind≠2→t.n=0
 text:t.kind≠0→t.kind≠1→t.kind≠3→t.s=⟨#[]⟩
theorem Kh {t:Rep}:Ca t=true ↔ Head t∧(t.kind<2→EU t.s=true):=by
 unfold Ca
 simp only [Bool.and_eq_true,Bool.or_eq_true,decide_eq_true_eq,List.isEmpty_iff]
 constructor
 ·rintro ⟨⟨⟨⟨⟨h1,h2⟩,h3⟩,h4⟩,h5⟩,h6⟩
  refine ⟨⟨h1,h2,fun e=>by rw [h3.resolve_left e];rfl,fun e=>h4.resolve_left e,fun e1 e2 e3=>?_⟩,fun e=>h6.resolve_left (by omega)⟩
  rcases h5 with ((h5|h5)|h5)|h5
  ·exact absurd h5 e1
  ·exact absurd h5 e2
  ·exact absurd h5 e3
  ·exact h5
 ·rintro ⟨⟨h1,h2,h3,h4,h5⟩,h6⟩
  refine ⟨⟨⟨⟨⟨h1,h2⟩,?_⟩,?_⟩,?_⟩,?_⟩
  ·by_cases e:t.kind=5
   ·exact .inl e
   ·exact .inr (List.eq_nil_of_length_eq_zero (h3 e))
  ·by_cases e:t.kind=2
   ·exact .inl e
   ·exact .inr (h4 e)
  ·by_cases e:t.kind=0∨t.kind=1∨t.kind=3
   ·rcases e with e|e|e
    ·exact .inl (.inl (.inl e))
    ·exact .inl (.inl (.inr e))
    ·exact .inl (.inr e)
   ·exact .inr (h5 (by omega) (by omega) (by omega))
  ·by_cases e:t.kind<2
   ·exact .inr (h6 e)
   ·exact .inl (by omega)
theorem PZ (t:Rep):Bu 0 t=(Ca t && decide (t.kind≠5)):=rfl
theorem PY (d:Nat) (t:Rep):Bu (d+1) t=(Ca t && t.l.all (Bu d)):=rfl
theorem UE {d:Nat} {t:Rep} (h:Ca t=false):Bu d t=false:=by
 cases d <;> simp [Bu,h]
def Ef:Nat→Rep→Prop
 | 0,_=>True
 | d+1,t=>t.s.size≤2000∧∀x∈t.l,Ef d x
theorem Ef.mono:∀{d e:Nat} {t:Rep},Ef d t→e≤d→Ef e t
 | _,0,_,_,_=>trivial
 | 0,e+1,_,_,h=>by omega
 | d+1,e+1,t,⟨h1,h2⟩,h=>⟨h1,fun x hx=>Ef.mono (h2 x hx) (by omega)⟩
theorem Og {d:Nat} {t:Rep} (h:t.kind≠5):Bu d t=Ca t:=by
 cases hl:Ca t with
 | false=>exact UE hl
 | true =>
  have h0:t.l=[]:=List.eq_nil_of_length_eq_zero ((Kh.1 hl).1.list h)
  cases d with
  | zero=>rw [PZ,hl,decide_eq_true h];rfl
  | succ d=>rw [PY,hl,h0];rfl
theorem Gt (t:Rep) (b:Bool) (h:b=true ↔ Head t∧(t.kind<2→EU t.s=true)):Ca t=b:=by
 rw [Bool.eq_iff_iff,Kh,h]
theorem De (t:Rep) (h:(Head t∧(t.kind<2→EU t.s=true))→False):Ca t=false:=by
 cases e:Ca t with
 | false=>rfl
 | true=>exact (h (Kh.1 e)).elim
end Go.Proofs.YtkcolpfanmdmiaaGreatDoor
namespace Go.V
variable {n : Nat} {l : List Oper}
theorem Q70 {f:FuncId} {first:Array Value} {cap:Array Value} {x:Operand} {d:Option Nat} {args:Array Operand} {tys:Array TypeId} {ty:TypeId} {pos:String} {af:Array Edge} {g:Option (Nat × Bool)} {vs:List Value} {Φ:Value→World→Prop} (h:∀v w',Φ v w'→(writes dr.1 ⟨d,.call ⟨.value x,args,tys⟩,ty,pos,af,g⟩=true∨Bd dr.2 w w')∧G P n ops dr l (E.put d v) w' K) (hf:E.look x=some (.func (.func f) first cap):=by exact rfl) (hargs:E.looks args.toList=some vs:=by exact rfl) (he:Am P dr.1 ⟨d,.call ⟨.value x,args,tys⟩,ty,pos,af,g⟩=true:=by exact rfl) (hd:Ah n d=true:=by exact rfl) (hc:Ctr P f (first.toList++vs++cap.toList) w Φ):G1 P n ops dr ⟨d,.call ⟨.value x,args,tys⟩,ty,pos,af,g⟩ l E w K:=by
 unfold Ctr at hc
 unfold G1 G at *
 intro a ha hw
 refine .inr ⟨he,hw,?_⟩
 have hm:args.map a.eval=vs.toArray:=by
  rw [← ha.evals hargs];apply Array.ext';simp
 unfold DZ Oper.wp
 have e1:first++vs.toArray++cap=(first.toList++vs++cap.toList).toArray:=by
  apply Array.ext';simp
 have:(execOp a.eval ⟨d,.call ⟨.value x,args,tys⟩,ty,pos,af,g⟩).run P w=.ok (.enter f (first.toList++vs++cap.toList).toArray) w:=by
  rw [← e1]
  simp [execOp,resolve,Deferred.ofValue,ha.eval hf,invoke,hm,BU hc.1]
 rw [this]
 refine Calls.mono hc.2 ?_
 rintro e w' ⟨v,rfl,hv⟩
 exact ⟨(h v w' hv).1,(h v w' hv).2 _ (ha.put _ _ (Be hd))⟩
theorem Bd.blk {S:List Nat} {w w':World} {b:Nat} {t:TypeId} {cs:List Value} (h:Bd S w w') (hb:Blk w.heap b t cs) (hs:AA S b=false):Blk w'.heap b t cs:=by
 have:=h.block b hb.lt hs
 unfold Blk at *
 rw [this];exact hb
def Df (p:Option Addr) (a:Nat):Nat:=(blk p).getD a
theorem Gn {a g k:Nat} (h1:k≠a) (h2:k≠g):AA [a,g,g] k=false:=by
 simp [AA,h1,h2]
theorem LA {a g:Nat}:AA [a,g,g] a=true:=by simp [AA]
theorem LB {a g:Nat}:AA [a,g,g] g=true:=by simp [AA]
theorem Bd.then3 {w w1 w2:World} {a g g':Nat} (h:Bd [a,g,g] w w1) (k:Bd [a,g',g'] w1 w2) (hn:g'=g∨w.heap.size≤g'∨g'=a):Bd [a,g,g] w w2 :=
 ⟨k.os.trans h.os,k.tape.trans h.tape,k.output.trans h.output,Nat.le_trans h.size k.size,fun i hi hs=>by
  have h1:=h.block i hi hs
  have hne:i≠a∧i≠g:=by
   constructor
   ·intro e;subst e;rw [LA] at hs;cases hs
   ·intro e;subst e;rw [LB] at hs;cases hs
  rw [k.block i (Nat.lt_of_lt_of_le hi h.size) (Gn hne.1 (by rcases hn with rfl|hn|rfl <;> omega)),h1]⟩
end Go.V
namespace Go.Proofs.YtkcolpfanmdmiaaGreatDoor
open Go.V
attribute [local irreducible] Blk Own hcell Ao Ab PlainT Ak Ad Ap Aa Ag EqT Au
theorem plL:PlainT Tryz.prog 208:=PlainT.of Tryz.underlying208 rfl
theorem plP:PlainT Tryz.prog 209:=PlainT.of Tryz.underlying209 rfl
structure EO (w0 w:World) (B a aL aP:Nat) (tL tP:TypeId) (p:Option Addr) (c:Nat) (bs:List UInt8):Prop where
 ext:Ext w0 w
 box:Blk w.heap a 40 [.slice p bs.length c]
 line:Blk w.heap aL tL [.func (.func 92) #[] #[.pointer (some (adr (bx a) 0))]]
 put:Blk w.heap aP tP [.func (.func 93) #[] #[.pointer (some (adr (bx aL) 0)),.pointer (some (adr (bx a) 0)),.pointer (some (adr (bx aP) 0))]]
 own:Go.V.Own w B 5 Ai p c bs
 h0:w0.heap.size≤a
 h1:a<B
 h2:aL<B
 h3:aP<B
 h4:aL≠a
 h5:aP≠a
 hB:B≤w.heap.size
variable {a aL aP : Nat} {tL tP : TypeId} {p' : Option Addr} {c' : Nat}
theorem EO.xt (h:EO w0 w B a aL aP tL tP p c bs) (hx:Ext w w'):EO w0 w' B a aL aP tL tP p c bs :=
 ⟨h.ext.trans hx,h.box.ext hx,h.line.ext hx,h.put.ext hx,h.own.ext hx,h.h0,h.h1,h.h2,h.h3,h.h4,h.h5,Nat.le_trans h.hB hx.size⟩
theorem EO.app {bs':List UInt8} {w1 w2:World} (h:EO w0 w B a aL aP tL tP p c bs) (ha:App w w1 B 5 Ai p p' c' bs') (hb:Blk w2.heap a 40 [.slice p' bs'.length c']) (hg:w1.grownBy w2 (some a)) :
  EO w0 w2 B a aL aP tL tP p' c' bs'∧Bd [a,Df p a,Df p a] w w2:=by
 have hge:=h.own.ge
 have hge1:=ha.own.ge
 have g1:∀k,k<B→blk p≠some k:=fun k hk e=>by have:=(hge k e).1;omega
 have hB1:B≤w1.heap.size:=Nat.le_trans h.hB ha.grown.size
 have h1':=h.h1
 refine ⟨⟨?_,hb,?_,?_,?_,h.h0,h.h1,h.h2,h.h3,h.h4,h.h5,Nat.le_trans hB1 hg.size⟩,?_⟩
 ·have e1:Ext w0 w1:=h.ext.app ha (fun k hk=>by have:=(hge k hk).1;have:=h.h0;omega)
  exact e1.own hg (fun k hk=>by injection hk with hk;have:=h.h0;omega)
 ·exact (h.line.grown ha.grown (g1 aL h.h2)).grown hg (fun e=>by injection e with e;exact h.h4 e.symm)
 ·exact (h.put.grown ha.grown (g1 aP h.h3)).grown hg (fun e=>by injection e with e;exact h.h5 e.symm)
 ·exact ha.own.kept hg (fun a' ha' e=>by injection e with e;have:=(hge1 a'.block (by rw [ha'];rfl)).1;omega)
 ·exact (Bd.of_grown ha.grown (fun k hk=>by
   have:Df p a=k:=by unfold Df;rw [hk];rfl
   rw [← this];exact LB)).trans (Bd.of_grown hg (fun k hk=>by injection hk with hk;rw [← hk];exact LA))
theorem Ku {w:World} {p p':Option Addr} {a:Nat} (h:BK w p p'):Df p' a=Df p a∨w.heap.size≤Df p' a∨Df p' a=a:=by
 unfold BK at h
 rcases h with h|h
 ·left;unfold Df;rw [h]
 ·right
  cases hb:blk p' with
  | none=>right;unfold Df;rw [hb];rfl
  | some k=>left;have:=h k hb;unfold Df;rw [hb];exact this
theorem Eb {w0 w:World} {B a aL aP:Nat} {tL tP:TypeId} {p:Option Addr} {c:Nat} {bs:List UInt8} {m:UInt8} {mi:Int} {s:ByteArray} (hm:mi=(m.toNat:Int)) (h:EO w0 w B a aL aP tL tP p c bs) (hl:bs.length+s.size≤1000000000) :
  Ctr Tryz.prog 92 [.int .u8 mi,.string s,.pointer (some (adr (bx a) 0))] w (fun v w'=>v=.tuple #[]∧∃p' c',EO w0 w' B a aL aP tL tP p' c' (bs++(m :: (s.data.toList++Bp)))∧Bd [a,Df p a,Df p a] w w'):=by
 subst hm
 have hss:s.data.toList.length=s.size:=by rw [Array.length_toList];rfl
 refine Ac Tryz.func92 Tryz.ntmps92 rfl rfl rfl ?_
 have hb:=h.box
 repeat' (first|refine R1 ?_|(refine Q1 ?_;(refine Q3 (hu:=T.p40) ?_))|fail)
 refine Q1 ?_
 refine Q12 Ai m T.s40 ?_
 intro p1 w1 hp1 hs1 _ hx1 hz1
 have h1:=h.xt hx1
 have hb:=h1.box
 have hO:=h1.own
 have hBB:=h1.hB
 repeat' (refine Q1 ?_;(refine Q16 T.s40 hO hs1 ?_;intro p2 c2 w2 ha2))
 have hb3:=h1.box.grown ha2.grown (fun e=>by have:=(h1.own.ge a e).1;have:=h1.h1;omega)
 refine Q1 ?_;refine Q5 T.z40 hb3 ?_;intro w3 hc3 hg3 hs3
 replace hc3:Blk w3.heap a 40 [.slice _ _ _]:=hc3
 obtain ⟨h3,x3⟩:=h1.app ha2 hc3 hg3
 have hb:=h3.box
 have hO:=h3.own
 have hBB:=h3.hB
 repeat' (first|refine R1 ?_|(refine Q1 ?_;first|(refine Q43 T.s40 T.str9 hO hBB (hlen:=by (simp only [List.length_append,List.length_cons,List.length_nil];omega)) (hmax:=by (simp only [List.length_append,List.length_cons,List.length_nil];omega)) ?_;intro p4 c4 w4 ha4)|(refine Q3 (hu:=T.p40) ?_))|fail)
 have hb5:=h3.box.grown ha4.grown (fun e=>by have:=(h3.own.ge a e).1;have:=h3.h1;omega)
 refine Q1 ?_;refine Q5 T.z40 hb5 ?_;intro w5 hc5 hg5 hs5
 replace hc5:Blk w5.heap a 40 [.slice _ _ _]:=hc5
 obtain ⟨h5,x5⟩:=h3.app ha4 hc5 hg5
 have hb:=h5.box
 have hO:=h5.own
 have hBB:=h5.hB
 repeat' (first|(refine Q1 ?_;first|(refine Q43 T.s40 T.str9 hO hBB (s:=⟨#[13,10]⟩) (hlen:=by (simp only [List.length_append,List.length_cons,List.length_nil,hss];show (_+2) * _≤_;omega)) (hmax:=by (simp only [List.length_append,List.length_cons,List.length_nil,hss];show _+2≤_;omega)) ?_;intro p6 c6 w6 ha6)|(refine Q3 (hu:=T.p40) ?_))|refine R1 ?_|fail)
 have hb7:=h5.box.grown ha6.grown (fun e=>by have:=(h5.own.ge a e).1;have:=h5.h1;omega)
 refine Q1 ?_;refine Q5 T.z40 hb7 ?_;intro w7 hc7 hg7 hs7
 replace hc7:Blk w7.heap a 40 [.slice _ _ _]:=hc7
 obtain ⟨h7,x7⟩:=h5.app ha6 hc7 hg7
 have hb:=h7.box
 have hO:=h7.own
 have hBB:=h7.hB
 repeat' apply Zu
 refine Zk Tryz.results92 (vs:=[]) rfl ?_
 have e0:bs++[m]++s.data.toList++(⟨#[13,10]⟩:ByteArray).data.toList=bs++(m :: (s.data.toList++Bp)):=by simp [Bp]
 rw [e0] at h7
 exact ⟨rfl,p6,c6,h7,((hx1.toS.trans x3).then3 x5 (by have:=Ku (a:=a) ha2.new;have:=hx1.size;omega)).then3 x7 (by
  have n2:=Ku (a:=a) ha2.new
  have n4:=Ku (a:=a) ha4.new
  have z1:=hx1.size
  have z3:=x3.size
  omega)⟩
theorem Uf (n:Int):(CK n).data.toList=Lib.itoa n:=by show (Lib.itoa n).toArray.toList=_;simp
theorem QE (n:Int):(CK n).size=(Lib.itoa n).length:=by show (Lib.itoa n).toArray.size=_;simp
theorem MK {α:Type} (f:α→List UInt8) (l:List α) (k:Nat):((l.take k).flatMap f).length≤(l.flatMap f).length:=by
 have h:l.flatMap f=(l.take k).flatMap f++(l.drop k).flatMap f:=by rw [← List.flatMap_append,List.take_append_drop]
 rw [h,List.length_append];omega
end Go.Proofs.YtkcolpfanmdmiaaGreatDoor
namespace Go.V
variable {n : Nat} {l : List Oper}
variable {ty : TypeId}
end Go.V
namespace Go.Proofs.YtkcolpfanmdmiaaGreatDoor
open Go.V
attribute [local irreducible] Blk Own hcell Ao Ab PlainT Ak Ad Ap Aa Ag EqT Au
end Go.Proofs.YtkcolpfanmdmiaaGreatDoor
namespace Go.V
open Go.RowKit
variable {n : Nat} {l : List Oper}
variable {ty : TypeId}
end Go.V
namespace Go.Proofs.YtkcolpfanmdmiaaGreatDoor
open Go.V
attribute [local irreducible] Blk Own hcell Ao Ab PlainT Ak Ad Ap Aa Ag EqT Au
theorem drop_at {α:Type} {xs:List α} {k:Nat} {x:α} (h:xs[k]?=some x):xs.drop k=x :: xs.drop (k+1):=by
 rw [List.drop_eq_getElem_cons (AR h)]
 rw [List.getElem?_eq_getElem (AR h)] at h
 injection h with h
 rw [h]
end Go.Proofs.YtkcolpfanmdmiaaGreatDoor
namespace Go.V
variable {n : Nat} {l : List Oper}
variable {ty : TypeId} {s : ByteArray} {t : TypeId} {k : IntKind}
theorem ZH {r:ByteArray} (hu:Ap P t) (hx:E.look x=some (.string s)) (hy:E.look y=some (.int k i)) (h0:0≤i) (h1:i≤s.size) (hr:s.extract i.toNat s.size=r) (hd:Ah n d=true)
  (h:G P n ops dr l (E.put d (.string r)) w K):G1 P n ops dr ⟨d,.slice t x (some y) none none,ty,pos,af,g⟩ l E w K:=by
 subst hr
 exact Zap hu hx hy h0 h1 hd h
theorem FM {m c:UInt8} (h:¬m=c):¬(m.toNat:Int)=(c.toNat:Int):=fun e=>h (UInt8.toNat_inj.1 (by omega))
theorem PL (m:UInt8) (s:List UInt8):BA (Af (m :: s)) 0=m:=by
 rw [Dz]
 have:(Af (m :: s)).data.toList=m :: s:=by unfold Af;simp
 rw [this];rfl
theorem EE (m:UInt8) (s:List UInt8):(Af (m :: s)).extract 1 (Af (m :: s)).size=Af s:=by
 apply ByteArray.ext
 apply Array.toList_inj.1
 rw [ByteArray.data_extract,Array.toList_extract]
 unfold Af
 simp [ByteArray.size]
end Go.V
namespace Go.Proofs.YtkcolpfanmdmiaaGreatDoor
open Go.V
attribute [local irreducible] Blk Own hcell Ao Ab PlainT Ak Ad Ap Aa Ag EqT Au
variable {w1 w2 : World} {ab aa aT : Nat} {tT : TypeId} {k' : Nat}
def zRep:Bg:=Av 0 ⟨#[]⟩ 0
theorem Gs {H:Array Obj} {d:Nat} {kd:Int} {s:ByteArray} {n:Int} (hs:s.size≤maxLen) (hn:-9223372036854775808≤n∧n≤9223372036854775807):Cc H (d+1) (Av kd s n) (.mk kd s n []) :=
 ⟨rfl,rfl,rfl,rfl,hs,hn,[],Sl.nil,rfl,fun i r' t' h=>by simp at h⟩
theorem NZ:(⟨#[]⟩:ByteArray).size≤maxLen:=Nat.zero_le _
theorem VK:(-9223372036854775808:Int)≤0∧(0:Int)≤9223372036854775807:=by decide
end Go.Proofs.YtkcolpfanmdmiaaGreatDoor
namespace Go.V
open Go.RowKit
def fst (l:List UInt8) (c:UInt8):Int:=Lib.indexByte l c
variable {n : Nat} {l : List Oper}
variable {ty t : TypeId} {s : ByteArray}
theorem Q57 (he:s=s') (h:G P n ops dr l (E.put d (.bool false)) w K) (hx:E.look x=some (.string s):=by exact rfl) (hy:E.look y=some (.string s'):=by exact rfl) (hd:Ah n d=true:=by exact rfl):G1 P n ops dr ⟨d,.binOp .neq t x y t',ty,pos,af,g⟩ l E w K :=
 Zag hx hy hd (by rw [decide_eq_false (fun hn=>hn he)];exact h)
theorem Q51 (he:¬s=s') (h:G P n ops dr l (E.put d (.bool true)) w K) (hx:E.look x=some (.string s):=by exact rfl) (hy:E.look y=some (.string s'):=by exact rfl) (hd:Ah n d=true:=by exact rfl):G1 P n ops dr ⟨d,.binOp .neq t x y t',ty,pos,af,g⟩ l E w K :=
 Zag hx hy hd (by rw [decide_eq_true he];exact h)
theorem Q105 {f : FuncId} {fn : Func} {p : Option Addr} {c : Nat} {m : Nat} {bs : List UInt8} {tys : Array TypeId} (hf : P.funcs[f]? = some fn) (hname : (fn.name == "runtime.NumGoroutine") = false) (hb : fn.body.isNone = true) (hn : Extern.findNext fn = none) (hfi : Extern.find fn = some Extern.BytealgIndexByte.indexByte) (hx : E.look x = some (.slice p m c)) (hy : E.look y = some (.int .u8 i)) (hm : m = bs.length) (hs : Sl w.heap Ai p c bs) (he : Am P dr.1 ⟨d, .call ⟨.value (.func f), #[x, y], tys⟩, ty, pos, af, g⟩ = true) (hd : Ah n d = true) (h : G P n ops dr l (E.put d (.int .i64 (fst bs i.toNat.toUInt8))) w K) : G1 P n ops dr ⟨d, .call ⟨.value (.func f), #[x, y], tys⟩, ty, pos, af, g⟩ l E w K := by
 subst hm
 have hr0:(Extern.BytealgIndexByte.indexByte #[.slice p bs.length c,.int .u8 i]).run P w=.ok (.int .i64 (fst bs i.toNat.toUInt8)) w:=by
  cases p with
  | none =>
   have h1:=hs.ok.nul rfl
   have h2:=hs.ok.le
   obtain rfl:=List.eq_nil_of_length_eq_zero (show bs.length=0 by omega)
   exact Lib.run_indexByteNil w _ _ _
  | some a =>
   by_cases h0:bs.length=0
   ·obtain rfl:=List.eq_nil_of_length_eq_zero h0
    exact Lib.run_indexByteSlice w a.block a.off 0 c [] rfl (fun j hj=>by omega) i |> fun h=>by
     have e:(Extern.BytealgIndexByte.indexByte #[.slice (some a) ([]:List UInt8).length c,.int .u8 i]).run P w=(Extern.BytealgIndexByte.indexByte #[.slice (some ⟨a.block,a.off,none⟩) 0 c,.int .u8 i]).run P w:=rfl
     rw [e]
     exact h
   ·have hsp:=hs.ok.spot a rfl (by have:=hs.ok.le;omega)
    obtain ⟨b,off,sp⟩:=a
    simp only at hsp
    subst hsp
    have key:=Lib.run_indexByteSlice (P:=P) w b off bs.length c (bs.map (fun z=>(z.toNat:Int))) (by simp) (fun j hj=>by
     obtain ⟨z,hz⟩:=Aj hj
     have h1:=hs.cell j z hz 0 (.int .u8 (z.toNat:Int)) rfl
     have e:adr (some ⟨b,off,none⟩) (j * Ai.sz+0)=⟨b,off+j,none⟩:=by simp [adr,Ai]
     rw [e] at h1
     rw [Gj,h1,List.getD_eq_getElem?_getD,List.getElem?_map,hz]
     rfl) i
    have e:Lib.bytesOf (bs.map (fun z=>(z.toNat:Int)))=bs:=by
     unfold Lib.bytesOf
     rw [List.map_map]
     conv=>rhs;rw [← List.map_id bs]
     apply List.map_congr_left
     intro z _
     simp
    rw [e] at key
    exact key
 have hr:(callFunc f #[.slice p bs.length c,.int .u8 i]).run P w=.ok (.value (.int .i64 (fst bs i.toNat.toUInt8))) w:=by
  rw [run_callFunc_extern hf hname hb hn hfi,hr0]
  rfl
 exact Zs _ w he hd (fun a ha=>by
  have e0:a.eval (.func f)=.func (.func f) #[] #[]:=rfl
  simp [execOp,resolve,Deferred.ofValue,e0,invoke,ha.eval hx,ha.eval hy,hr]) (.inr Bd.rfl') h
end Go.V
namespace Go.Proofs.YtkcolpfanmdmiaaGreatDoor
open Go.V
attribute [local irreducible] Blk Own hcell Ao Ab PlainT Ak Ad Ap Aa Ag EqT Au
def BM (c:UInt8):List UInt8→Nat
 | []=>0
 | b :: l=>if b=c then 0 else BM c l+1
theorem MB (c:UInt8):∀l:List UInt8,BM c l≤l.length
 | []=>Nat.le_refl _
 | b :: l=>by
  unfold BM
  have:=MB c l
  split
  ·omega
  ·simp only [List.length_cons];omega
theorem WY:∀l:List UInt8,BJ l=BM 10 l
 | []=>rfl
 | b :: l=>by
  unfold BJ BM
  rw [WY l]
theorem Po (c:UInt8):∀l:List UInt8,fst l c=if BM c l<l.length then (BM c l:Int) else -1
 | []=>rfl
 | b :: l=>by
  have ih:=Po c l
  unfold fst at ih ⊢
  unfold Lib.indexByte BM
  by_cases hb:b=c
  ·simp [hb]
  ·have hb2:(b == c)=false:=by simpa using hb
   rw [if_neg (show ¬(b == c)=true by rw [hb2];decide),if_neg hb]
   by_cases h:BM c l<l.length
   ·rw [if_pos h] at ih
    rw [ih,if_neg (show ¬(((BM c l:Nat):Int) == -1)=true by first|(simp;done)|(simp;omega)),if_pos (show BM c l+1<(b :: l).length by simp only [List.length_cons];omega)]
    push_cast;rfl
   ·rw [if_neg h] at ih
    rw [ih,if_neg (show ¬BM c l+1<(b :: l).length by simp only [List.length_cons];omega)]
    rfl
end Go.Proofs.YtkcolpfanmdmiaaGreatDoor
namespace Go.V
abbrev Hdr:=Option Addr × Nat × Nat
def Eu:Enc Hdr:=⟨1,fun r=>[.slice r.1 r.2.1 r.2.2],fun _=>rfl,fun _ v hv=>by simp at hv;subst hv;rfl,by decide⟩
structure BL (H:Array Obj) (hs:List Hdr) (ls:List (List ByteArray)):Prop where
 len:hs.length=ls.length
 get:∀(i:Nat) h l,hs[i]?=some h→ls[i]?=some l→h.2.1=l.length∧Sl H Ar h.1 h.2.2 l
theorem BL.nil {H:Array Obj}:BL H [] []:=⟨rfl,fun i h l hi=>by simp at hi⟩
theorem BL.cells {H H':Array Obj} {hs:List Hdr} {ls:List (List ByteArray)} (h:BL H hs ls) (hh:∀a v,hcell H a=some v→hcell H' a=some v):BL H' hs ls :=
 ⟨h.len,fun i x l hx hl=>⟨(h.get i x l hx hl).1,(h.get i x l hx hl).2.cells hh⟩⟩
theorem KF {S S':Nat→Prop} {H H':Array Obj} (hh:∀q,¬S q→q<H.size→¬S' q∧H'[q]?=H[q]?):∀a v,hcell (veil S H) a=some v→hcell (veil S' H') a=some v:=fun a v hv=>by
 obtain ⟨h1,hp,h2⟩:=BQ.1 hv
 obtain ⟨h3,h4⟩:=hh a.block h1 (Dm h2)
 exact BQ.2 ⟨h3,by rw [h4];exact hp,by rw [BI h4];exact h2⟩
theorem BL.hide {S S':Nat→Prop} {H H':Array Obj} {hs:List Hdr} {ls:List (List ByteArray)} (h:BL (veil S H) hs ls) (hh:∀q,¬S q→q<H.size→¬S' q∧H'[q]?=H[q]?):BL (veil S' H') hs ls :=
 h.cells (KF hh)
theorem BL.snoc {H:Array Obj} {hs:List Hdr} {ls:List (List ByteArray)} (h:BL H hs ls) {p:Option Addr} {c:Nat} {l:List ByteArray} (hl:Sl H Ar p c l):BL H (hs++[(p,l.length,c)]) (ls++[l]):=by
 refine ⟨by simp [h.len],fun i x y hx hy=>?_⟩
 by_cases hi:i<hs.length
 ·rw [List.getElem?_append_left hi] at hx
  rw [List.getElem?_append_left (by rw [← h.len];exact hi)] at hy
  exact h.get i x y hx hy
 ·have e1:=(List.getElem?_eq_some_iff.1 hx).1
  rw [List.length_append,List.length_singleton] at e1
  obtain rfl:i=hs.length:=by omega
  rw [List.getElem?_append_right (Nat.le_refl _),Nat.sub_self] at hx
  rw [List.getElem?_append_right (by rw [h.len];exact Nat.le_refl _),h.len,Nat.sub_self] at hy
  obtain rfl:(p,l.length,c)=x:=by simpa using hx
  obtain rfl:l=y:=by simpa using hy
  exact ⟨rfl,hl⟩
theorem BL.app {H:Array Obj} {hs hs':List Hdr} {ls ls':List (List ByteArray)} (h:BL H hs ls) (k:BL H hs' ls'):BL H (hs++hs') (ls++ls'):=by
 refine ⟨by simp [h.len,k.len],fun i x y hx hy=>?_⟩
 by_cases hi:i<hs.length
 ·rw [List.getElem?_append_left hi] at hx
  rw [List.getElem?_append_left (by rw [← h.len];exact hi)] at hy
  exact h.get i x y hx hy
 ·rw [List.getElem?_append_right (by omega)] at hx
  rw [List.getElem?_append_right (by rw [← h.len];omega),← h.len] at hy
  exact k.get _ x y hx hy
structure FrS (F:Nat→Prop) (w w':World):Prop where
 os:w'.os=w.os
 tape:w'.tape=w.tape
 output:w'.output=w.output
 size:w.heap.size≤w'.heap.size
 block:∀k,k<w.heap.size→¬F k→w'.heap[k]?=w.heap[k]?
theorem FrS.of_ext {F:Nat→Prop} {w w':World} (h:Ext w w'):FrS F w w':=⟨h.os,h.tape,h.output,h.size,fun k hk _=>h.block k hk⟩
theorem FrS.of_grown {F:Nat→Prop} {row:Option Nat} {w w':World} (h:w.grownBy w' row) (hf:∀k,row=some k→F k):FrS F w w' :=
 ⟨h.os,h.tape,h.output,h.size,fun k hk hn=>h.block k hk (fun e=>hn (hf k e.symm))⟩
theorem FrS.trans {F G:Nat→Prop} {w w1 w2:World} (h:FrS F w w1) (k:FrS G w1 w2) (hg:∀q,q<w.heap.size→G q→F q):FrS F w w2 :=
 ⟨k.os.trans h.os,k.tape.trans h.tape,k.output.trans h.output,Nat.le_trans h.size k.size,fun q hq hn=>(k.block q (Nat.lt_of_lt_of_le hq h.size) (fun hgq=>hn (hg q hq hgq))).trans (h.block q hq hn)⟩
theorem FrS.toE {F:Nat→Prop} {w w':World} (h:FrS F w w') (hf:∀q,q<w.heap.size→¬F q):Ext w w':=⟨h.os,h.tape,h.output,h.size,fun k hk=>h.block k hk (hf k hk)⟩
theorem FrS.blk {F:Nat→Prop} {w w':World} (h:FrS F w w') {b:Nat} {t:TypeId} {cs:List Value} (hb:Blk w.heap b t cs) (hf:¬F b):Blk w'.heap b t cs:=by
 have:=h.block b hb.lt hf
 unfold Blk at *
 rw [this];exact hb
end Go.V
namespace Go.Proofs.YtkcolpfanmdmiaaGreatDoor
open Go.V
attribute [local irreducible] Blk Own hcell Ao Ab PlainT Ak Ad Ap Aa Ag EqT Au
theorem RD (w:List UInt8) (c:UInt8) (l:List UInt8):Dt w (c :: l)=if c=32 then (if w=[] then Dt [] l else w :: Dt [] l) else Dt (w++[c]) l:=rfl
theorem Si (a b:List UInt8):Af a++Af b=Af (a++b):=by
 apply ByteArray.ext
 rw [ByteArray.data_append]
 unfold Af
 simp
theorem Sj (s:List UInt8) (a b:Nat):(Af s).extract a b=Af ((s.drop a).take (b - a)):=by
 apply ByteArray.ext
 apply Array.toList_inj.1
 rw [ByteArray.data_extract,Array.toList_extract]
 unfold Af
 simp [List.extract_eq_take_drop]
theorem FB (l:List UInt8):Af l=⟨#[]⟩ ↔ l=[]:=by
 constructor
 ·intro h
  have:=congrArg ByteArray.size h
  rw [BR] at this
  exact List.eq_nil_of_length_eq_zero this
 ·intro h;rw [h];rfl
structure Fx (w w':World) (q:Option Addr) (d:Nat) (hs:List Hdr) (ls:List (List ByteArray)):Prop where
 ext:Ext w w'
 own:Go.V.Own w' w.heap.size 61 Eu q d hs
 at_:BL (veil (fun b=>b<w.heap.size∨blk q=some b) w'.heap) hs ls
theorem Fx.ext' {w w1 w2:World} {q:Option Addr} {d:Nat} {hs:List Hdr} {ls:List (List ByteArray)} (h:Fx w w1 q d hs ls) (hx:Ext w1 w2):Fx w w2 q d hs ls :=
 ⟨h.ext.trans hx,h.own.ext hx,h.at_.hide (fun b hb hl=>⟨hb,hx.block b hl⟩)⟩
theorem Fx.push {w w1 w2 w3:World} {q q':Option Addr} {d d':Nat} {hs:List Hdr} {ls:List (List ByteArray)} {p:Option Addr} {c B:Nat} {l:List ByteArray} (h:Fx w w1 q d hs ls) (hB:w.heap.size≤B) (hq:∀k,blk q=some k→k<B) (hl:Go.V.Own w1 B 9 Ar p c l) (hx:Ext w1 w2) (ha:App w2 w3 w.heap.size 61 Eu q q' d' (hs++[(p,l.length,c)])) :
  Fx w w3 q' d' (hs++[(p,l.length,c)]) (ls++[l]):=by
 have hge:=h.own.ge
 have hz:=hx.size
 have hstep:∀b,b<w1.heap.size→blk q≠some b→blk q'≠some b∧w3.heap[b]?=w1.heap[b]?:=fun b hb hne=>by
  refine ⟨fun e=>?_,?_⟩
  ·have hnp:=ha.new
   unfold BK at hnp
   rcases hnp with h|h
   ·exact hne (by rw [← h];exact e)
   ·have:=h b e;omega
  ·rw [ha.grown.block b (by omega) (fun e=>hne e.symm),hx.block b hb]
 refine ⟨(h.ext.trans hx).app ha (fun k hk=>(hge k hk).1),ha.own,(h.at_.hide (fun b hb hl=>?_)).snoc ?_⟩
 ·obtain ⟨s1,s2⟩:=hstep b hl (fun e=>hb (.inr e))
  exact ⟨fun e=>e.elim (fun e=>hb (.inl e)) s1,s2⟩
 ·refine (hl.hidden (S:=fun b=>b<B) (fun k hk hlt=>?_)).cells (KF (fun b hb hlt=>?_))
  ·have:=(hl.ge k hk).1;omega
  ·obtain ⟨s1,s2⟩:=hstep b hlt (fun e=>by have:=hq b e;omega)
   exact ⟨fun e=>e.elim (fun e=>hb (by omega)) s1,s2⟩
theorem ibs0:Extern.findNext Tryz.f188=none:=by kernel_rfl
theorem ibs1:Extern.find Tryz.f188=some Extern.BytealgIndexByte.indexByte:=by kernel_rfl
theorem Mx {p:Option Addr} {c:Nat} {bs:List UInt8} {i:Int} {w:World} (hC:Sl w.heap Ai p c bs) :
  Ctr Tryz.prog 123 [.slice p bs.length c,.int .u8 i] w (fun v w'=>v=.int .i64 (fst bs i.toNat.toUInt8)∧Ext w w'):=by
 refine Ac Tryz.func123 Tryz.ntmps123 rfl rfl rfl ?_
 repeat' (first|refine R1 ?_|(refine Q1 ?_;(refine Q105 Tryz.func188 rfl rfl ibs0 ibs1 rfl rfl rfl hC rfl rfl (bs:=bs) ?_))|refine R2 ?_|fail)
 refine Kr Tryz.results123 ?_
 exact ⟨rfl,Kz⟩
structure Ba (w0 w:World) (ar B:Nat) (p:Option Addr) (c:Nat) (inp:List UInt8) (a:Nat) (pw:Option Addr) (cw:Nat) (r:RS) (ft:Int):Prop where
 blk:Blk w.heap ar 192 [.slice p inp.length c,.int .i64 (a:Int),.int .i64 (r.left:Int),.int .i64 r.size,.slice pw r.words.length cw,.int .i64 (r.held:Int),.int .i64 ft]
 row:Go.V.Own w B 5 Ai p c inp
 wds:Go.V.Own w B 9 Ar pw cw r.words
 ext:Ext w0 w
 h0:w0.heap.size≤ar
 lt:ar<B
 hB:B≤w.heap.size
 la:a≤inp.length
theorem Ba.xt {w0 w w':World} {ar B:Nat} {p:Option Addr} {c:Nat} {inp:List UInt8} {a:Nat} {pw:Option Addr} {cw:Nat} {r:RS} {ft:Int} (h:Ba w0 w ar B p c inp a pw cw r ft) (hx:Ext w w'):Ba w0 w' ar B p c inp a pw cw r ft :=
 ⟨h.blk.ext hx,h.row.ext hx,h.wds.ext hx,h.ext.trans hx,h.h0,h.lt,Nat.le_trans h.hB hx.size,h.la⟩
theorem Ba.set {w0 w w':World} {ar B:Nat} {p:Option Addr} {c:Nat} {inp:List UInt8} {a a':Nat} {pw:Option Addr} {cw:Nat} {r r':RS} {ft ft':Int} (h:Ba w0 w ar B p c inp a pw cw r ft) (hg:w.grownBy w' (some ar))
  (hb:Blk w'.heap ar 192 [.slice p inp.length c,.int .i64 (a':Int),.int .i64 (r'.left:Int),.int .i64 r'.size,.slice pw r'.words.length cw,.int .i64 (r'.held:Int),.int .i64 ft']) (hw:r'.words=r.words) (hl:a'≤inp.length):Ba w0 w' ar B p c inp a' pw cw r' ft' :=
 ⟨hb,h.row.kept hg (fun x hx e=>by injection e with e;have:=(h.row.ge x.block (by rw [hx];rfl)).1;have:=h.lt;omega),by rw [hw];exact h.wds.kept hg (fun x hx e=>by injection e with e;have:=(h.wds.ge x.block (by rw [hx];rfl)).1;have:=h.lt;omega),h.ext.own hg (fun k hk=>by injection hk with hk;have:=h.h0;omega),h.h0,h.lt,Nat.le_trans h.hB hg.size,hl⟩
theorem Wi (cs:List UInt8):fst (cs.take (min cs.length 1026)) 10=if BJ cs<cs.length∧BJ cs<1026 then (BJ cs:Int) else -1:=by
 rw [Po,← WY]
 have hl:(cs.take (min cs.length 1026)).length=min cs.length 1026:=by rw [List.length_take];omega
 rw [hl]
 have hsplit:cs=cs.take (min cs.length 1026)++cs.drop (min cs.length 1026):=(List.take_append_drop _ _).symm
 by_cases h:BJ (cs.take (min cs.length 1026))<min cs.length 1026
 ·have h1:=Oa (cs.drop (min cs.length 1026)) (l:=cs.take (min cs.length 1026)) (by rw [hl];exact h)
  rw [← hsplit] at h1
  rw [if_pos h,if_pos (by rw [h1];omega),h1]
 ·have h0:=QL (cs.take (min cs.length 1026))
  have h1:=QK (cs.drop (min cs.length 1026)) (l:=cs.take (min cs.length 1026)) (by omega)
  rw [← hsplit,hl] at h1
  rw [if_neg h,if_neg (by omega)]
def Lh (w0 w:World) (ar B:Nat) (p:Option Addr) (c:Nat) (inp:List UInt8) (a:Nat) (pw:Option Addr) (cw:Nat) (r:RS) (x:WS) (v:Value) (w':World):Prop :=
 FrS (fun q=>q=ar) w w'∧match x with
 | .more=>v=.tuple #[.string ⟨#[]⟩,.bool false]∧Ba w0 w' ar B p c inp a pw cw r 0
 | .err e=>v=.tuple #[.string ⟨#[]⟩,.bool false]∧Ba w0 w' ar B p c inp a pw cw r e
 | .ok s k=>v=.tuple #[.string (Af s),.bool true]∧Ba w0 w' ar B p c inp (a+k) pw cw r 0
theorem LP {w0:World} {ar B:Nat} {p:Option Addr} {c:Nat} {inp:List UInt8} {a:Nat} {pw:Option Addr} {cw:Nat} {r:RS} {w:World} (hR:Ba w0 w ar B p c inp a pw cw r 0) (hN:inp.length≤1000000000) :
  Ctr Tryz.prog 82 [.pointer (some (adr (bx ar) 0))] w (Lh w0 w ar B p c inp a pw cw r (Dn (inp.drop a))):=by
 have hC:=hR.row.sl
 have hok:=hC.ok
 have hle:=hok.le
 have hla:=hR.la
 have hbk:=hR.blk
 obtain ⟨cs,hcs⟩:∃cs,inp.drop a=cs:=⟨_,rfl⟩
 have hcl:cs.length=inp.length - a:=by rw [← hcs,List.length_drop]
 have hD:Sl w.heap Ai (AP p c a 1) (c - a) cs:=by rw [← hcs];exact hC.drop (by omega)
 obtain ⟨m,hm⟩:∃m,m=min cs.length 1026:=⟨_,rfl⟩
 have hib:=fun w' (hx:Ext w w')=>Mx (w:=w') (i:=10) ((hD.take m).ext hx)
 have hml:(cs.take m).length=m:=by rw [List.length_take];omega
 have hfi:fst (cs.take m) (10:Int).toNat.toUInt8=if BJ cs<cs.length∧BJ cs<1026 then (BJ cs:Int) else -1:=by rw [hm];exact Wi cs
 rw [hml,hfi] at hib
 rw [hcs]
 have hlp:Dn cs=if BJ cs<cs.length∧BJ cs<1026 then (if BJ cs=0∨cs.getD (BJ cs - 1) 0≠13 then .err 10 else .ok (cs.take (BJ cs - 1)) (BJ cs+1)) else if cs.length<1026 then .more else .err 12:=rfl
 obtain ⟨q,hq⟩:∃q,BJ cs=q:=⟨_,rfl⟩
 rw [hq] at hlp hib
 have hfr:∀w1 w2,Ext w w1→w1.grownBy w2 (some ar)→FrS (fun q=>q=ar) w w2:=fun w1 w2 hx hg=>(FrS.of_ext hx).trans (FrS.of_grown hg (fun k hk=>by injection hk with hk;exact hk.symm)) (fun _ _ h=>h)
 have hokD:Okp (AP p c a 1) (inp.length - a) (c - a):=hcl ▸ hD.ok
 refine Ac Tryz.func82 Tryz.ntmps82 rfl rfl rfl ?_
 by_cases hf:q<cs.length∧q<1026
 ·rw [if_pos hf] at hlp
  simp only [if_pos hf] at hib
  by_cases hq0:q=0
  ·rw [if_pos (.inl hq0)] at hlp
   repeat' (first|(apply Za;exact rfl;all_goals (intro h;try (exfalso;omega)))|refine R1 ?_|(refine Q1 ?_;first|(refine Q18 T.s40 hok (q:=a) ?_)|(refine Q23 T.s40 (q:=m) ?_)|(refine Q4 (f:=123) (hc:=hib _ Kz) ?_;rintro _ w2 ⟨rfl,hx2⟩;refine Kc ?_;replace hbk:=hbk.ext (Kx hx2))|(refine Q2 (hu:=by (first|exact T.f192_0|exact T.f192_1|exact T.f192_6)) ?_)|(refine Q3 (hu:=by (first|exact T.p40|exact T.p3)) ?_)|(refine Q6 (hu:=T.s40) ?_))|refine R2 ?_|((fail_if_success (refine Q1 ?_));apply Zb;exact rfl;exact rfl;all_goals (intro h;try (exfalso;omega)))|refine Zf 1 [] [0,1,2,3,4,5,6,7,8,9] mixed (by decide +kernel) ?_|fail)
   all_goals try (exfalso;omega)
   refine Q1 ?_;refine Q5 T.z58 hbk ?_;intro w3 hA3 hg3 hs3
   replace hA3:Blk w3.heap ar 192 [.slice p inp.length c,.int .i64 (a:Int),.int .i64 (r.left:Int),.int .i64 r.size,.slice pw r.words.length cw,.int .i64 (r.held:Int),.int .i64 10]:=hA3
   have h3:=(hR.xt (show Ext w w2 from Kz)).set hg3 hA3 rfl hla
   repeat' (first|refine R1 ?_|refine R2 ?_|fail)
   refine Kr Tryz.results82 ?_
   unfold Lh
   rw [hlp]
   exact ⟨hfr w2 w3 Kz hg3,rfl,h3⟩
  ·obtain ⟨y,hy⟩:=Aj (xs:=cs) (k:=q - 1) (by omega)
   have hcy:cs.getD (q - 1) 0=y:=by rw [List.getD_eq_getElem?_getD,hy];rfl
   rw [hcy] at hlp
   by_cases h13:y=13
   ·rw [if_neg (fun h=>h.elim hq0 (fun h=>h h13))] at hlp
    have hyi:(y.toNat:Int)=13:=by rw [h13];rfl
    repeat' (first|(apply Za;exact rfl;all_goals (intro h;try (exfalso;omega)))|refine R1 ?_|(refine Q1 ?_;first|(refine Q18 T.s40 hok (q:=a) ?_)|(refine Q23 T.s40 (q:=m) ?_)|(refine Q4 (f:=123) (hc:=hib _ Kz) ?_;rintro _ w2 ⟨rfl,hx2⟩;refine Kc ?_;replace hbk:=hbk.ext (Kx hx2))|(refine Q10 T.s40 hokD (q:=q - 1) (hj:=by omega) ?_)|(refine Q9 (q:=q - 1) (e:=Ai) (hu:=T.p5) (hs:=hD.ext Kz) (hq:=hy) ?_)|(refine Q2 (hu:=by (first|exact T.f192_0|exact T.f192_1)) ?_)|(refine Q3 (hu:=by (first|exact T.p40|exact T.p3)) ?_)|(refine Q6 (hu:=T.s40) ?_))|refine R2 ?_|((fail_if_success (refine Q1 ?_));apply Zb;exact rfl;exact rfl;all_goals (intro h;try (exfalso;omega)))|refine Zf 1 [] [0,1,2,3,4,5,6,7,8,9] mixed (by decide +kernel) ?_|fail)
    all_goals try (exfalso;omega)
    refine Q1 ?_;refine Q5 T.z3 hbk ?_;intro w3 hA3 hg3 hs3
    replace hA3:Blk w3.heap ar 192 [.slice p inp.length c,.int .i64 ((a:Int)+((q:Int)+1)),.int .i64 (r.left:Int),.int .i64 r.size,.slice pw r.words.length cw,.int .i64 (r.held:Int),.int .i64 0]:=hA3
    rw [show (a:Int)+((q:Int)+1)=((a+(q+1):Nat):Int) by omega] at hA3
    have hx02:Ext w w2:=Kz
    have h3:=(hR.xt hx02).set hg3 hA3 rfl (by omega)
    have hS3:Sl w3.heap Ai (AP p c a 1) (c - a) (cs.take (q - 1)):=by
     have h1:=(h3.row.sl.drop (l:=a) (by omega)).take (q - 1)
     rw [hcs] at h1
     exact h1
    repeat' (first|refine R1 ?_|(refine Q1 ?_;first|(refine Q23 T.s40 (q:=q - 1) ?_)|(refine Q30 T.s40 T.i5 T.str9 (bs:=cs.take (q - 1)) (hm:=by (rw [List.length_take];omega)) (hs:=hS3) ?_))|refine R2 ?_|fail)
    refine Kr Tryz.results82 ?_
    unfold Lh
    rw [hlp]
    exact ⟨hfr w2 w3 hx02 hg3,rfl,h3⟩
   ·rw [if_pos (.inr h13)] at hlp
    have hyi:¬(y.toNat:Int)=13:=FM (c:=13) h13
    repeat' (first|(apply Za;exact rfl;all_goals (intro h;try (exfalso;omega)))|refine R1 ?_|(refine Q1 ?_;first|(refine Q18 T.s40 hok (q:=a) ?_)|(refine Q23 T.s40 (q:=m) ?_)|(refine Q4 (f:=123) (hc:=hib _ Kz) ?_;rintro _ w2 ⟨rfl,hx2⟩;refine Kc ?_;replace hbk:=hbk.ext (Kx hx2))|(refine Q10 T.s40 hokD (q:=q - 1) (hj:=by omega) ?_)|(refine Q9 (q:=q - 1) (e:=Ai) (hu:=T.p5) (hs:=hD.ext Kz) (hq:=hy) ?_)|(refine Q2 (hu:=by (first|exact T.f192_0|exact T.f192_1|exact T.f192_6)) ?_)|(refine Q3 (hu:=by (first|exact T.p40|exact T.p3)) ?_)|(refine Q6 (hu:=T.s40) ?_))|refine R2 ?_|((fail_if_success (refine Q1 ?_));apply Zb;exact rfl;exact rfl;all_goals (intro h;try (exfalso;omega)))|refine Zf 1 [] [0,1,2,3,4,5,6,7,8,9] mixed (by decide +kernel) ?_|fail)
    all_goals try (exfalso;omega)
    refine Q1 ?_;refine Q5 T.z58 hbk ?_;intro w3 hA3 hg3 hs3
    replace hA3:Blk w3.heap ar 192 [.slice p inp.length c,.int .i64 (a:Int),.int .i64 (r.left:Int),.int .i64 r.size,.slice pw r.words.length cw,.int .i64 (r.held:Int),.int .i64 10]:=hA3
    have h3:=(hR.xt (show Ext w w2 from Kz)).set hg3 hA3 rfl hla
    repeat' (first|refine R1 ?_|refine R2 ?_|fail)
    refine Kr Tryz.results82 ?_
    unfold Lh
    rw [hlp]
    exact ⟨hfr w2 w3 Kz hg3,rfl,h3⟩
 ·rw [if_neg hf] at hlp
  simp only [if_neg hf] at hib
  by_cases h26:cs.length<1026
  ·rw [if_pos h26] at hlp
   repeat' (first|(apply Za;exact rfl;all_goals (intro h;try (exfalso;omega)))|refine R1 ?_|(refine Q1 ?_;first|(refine Q18 T.s40 hok (q:=a) ?_)|(refine Q23 T.s40 (q:=m) ?_)|(refine Q4 (f:=123) (hc:=hib _ Kz) ?_;rintro _ w2 ⟨rfl,hx2⟩;refine Kc ?_;replace hbk:=hbk.ext (Kx hx2))|(refine Q2 (hu:=by (first|exact T.f192_0|exact T.f192_1)) ?_)|(refine Q3 (hu:=by (first|exact T.p40|exact T.p3)) ?_)|(refine Q6 (hu:=T.s40) ?_))|refine R2 ?_|refine Zf 1 [] [0,1,2,3,4,5,6,7,8,9] mixed (by decide +kernel) ?_|fail)
   all_goals try (exfalso;omega)
   refine Kr Tryz.results82 ?_
   unfold Lh
   rw [hlp]
   have hx02:Ext w w2:=Kz
   exact ⟨FrS.of_ext hx02,rfl,hR.xt hx02⟩
  ·rw [if_neg h26] at hlp
   repeat' (first|(apply Za;exact rfl;all_goals (intro h;try (exfalso;omega)))|refine R1 ?_|(refine Q1 ?_;first|(refine Q18 T.s40 hok (q:=a) ?_)|(refine Q23 T.s40 (q:=m) ?_)|(refine Q4 (f:=123) (hc:=hib _ Kz) ?_;rintro _ w2 ⟨rfl,hx2⟩;refine Kc ?_;replace hbk:=hbk.ext (Kx hx2))|(refine Q2 (hu:=by (first|exact T.f192_0|exact T.f192_1|exact T.f192_6)) ?_)|(refine Q3 (hu:=by (first|exact T.p40|exact T.p3)) ?_)|(refine Q6 (hu:=T.s40) ?_))|refine R2 ?_|refine Zf 1 [] [0,1,2,3,4,5,6,7,8,9] mixed (by decide +kernel) ?_|fail)
   all_goals try (exfalso;omega)
   refine Q1 ?_;refine Q5 T.z58 hbk ?_;intro w3 hA3 hg3 hs3
   replace hA3:Blk w3.heap ar 192 [.slice p inp.length c,.int .i64 (a:Int),.int .i64 (r.left:Int),.int .i64 r.size,.slice pw r.words.length cw,.int .i64 (r.held:Int),.int .i64 12]:=hA3
   have h3:=(hR.xt (show Ext w w2 from Kz)).set hg3 hA3 rfl hla
   repeat' (first|refine R1 ?_|refine R2 ?_|fail)
   refine Kr Tryz.results82 ?_
   unfold Lh
   rw [hlp]
   exact ⟨hfr w2 w3 Kz hg3,rfl,h3⟩
def OQ (w0 w:World) (ar B:Nat) (p:Option Addr) (c:Nat) (inp:List UInt8) (a:Nat) (pw:Option Addr) (cw:Nat) (r:RS) (x:Except Int Int) (v:Value) (w':World):Prop :=
 FrS (fun q=>q=ar) w w'∧match x with
 | .error e=>v=.tuple #[.int .i64 0,.bool false]∧Ba w0 w' ar B p c inp a pw cw r e
 | .ok n=>v=.tuple #[.int .i64 n,.bool true]∧Ba w0 w' ar B p c inp a pw cw r 0
theorem FK {w w1 w2:World} {ar:Nat} (h:FrS (fun q=>q=ar) w w1) (hg:w1.grownBy w2 (some ar)):FrS (fun q=>q=ar) w w2 :=
 h.trans (FrS.of_grown hg (fun k hk=>by injection hk with hk;exact hk.symm)) (fun _ _ h=>h)
theorem IB {w0:World} {ar B:Nat} {p:Option Addr} {c:Nat} {inp:List UInt8} {a:Nat} {pw:Option Addr} {cw:Nat} {r:RS} {w:World} {s:List UInt8} {m:UInt8} {mi lo hi:Int} (hR:Ba w0 w ar B p c inp a pw cw r 0) (hm:mi=(m.toNat:Int)) (hs:s.length≤1000000000) (hT:Pow w0) (hE:CL w0) :
  Ctr Tryz.prog 84 [.pointer (some (adr (bx ar) 0)),.string (Af s),.int .u8 mi,.int .i64 lo,.int .i64 hi] w (OQ w0 w ar B p c inp a pw cw r (Dy s m lo hi)):=by
 subst hm
 have hsz:=BR s
 have hbk:=hR.blk
 have hla:=hR.la
 replace hT:Pow w:=TabIs.ext hT hR.ext
 replace hE:=hE.ext hR.ext
 refine Ac Tryz.func84 Tryz.ntmps84 rfl rfl rfl ?_
 cases s with
 | nil =>
  have hv:Dy [] m lo hi=.error 10:=rfl
  have hee:Af []=⟨#[]⟩:=rfl
  repeat' (first|(apply ZO;exact rfl;first|(apply Zt;exact rfl;exact rfl)|(apply ZG;exact rfl;exact rfl)|(apply ZA;exact rfl;exact rfl)|(apply ZC;exact rfl;exact rfl;exact rfl)|(apply Zak;exact rfl;exact rfl;exact rfl)|(apply ZB;exact T.f192_6;exact rfl;exact rfl))|apply Zu|apply Zr|apply ZN|apply Zw|(apply ZR;exact rfl)|(apply Zbe;exact rfl;exact rfl))
  all_goals try (exfalso;exact absurd hee (by assumption))
  apply ZO;exact rfl;apply ZJ;exact T.z58;exact rfl;exact rfl;exact hbk;exact rfl;exact rfl;(first|exact Nat.le_of_ble_eq_true rfl|(focus (simp [Value.cells];done)));(first|exact Enc.one _ _|(focus (simp [Value.oneCell'];done))|(focus (simp [Value.cells,Value.oneCell'];done))|exact Enc.oneAgg _ _);exact rfl;(first|exact .inl rfl|exact .inr (by simp [AA]));exact rfl;intro w3 hA3 hg3 hs3
  replace hA3:Blk w3.heap ar 192 [.slice p inp.length c,.int .i64 (a:Int),.int .i64 (r.left:Int),.int .i64 r.size,.slice pw r.words.length cw,.int .i64 (r.held:Int),.int .i64 10]:=hA3
  have h3:=(hR.xt (show Ext w w from Kz)).set hg3 hA3 rfl hla
  repeat' (first|(apply ZO;exact rfl;(apply Zt;exact rfl;exact rfl))|apply Zu|apply Zr|apply ZN|apply Zw|apply ZZ|apply Zx)
  refine Kr Tryz.results84 ?_
  unfold OQ
  rw [hv]
  exact ⟨FK (FrS.of_ext Kz) hg3,rfl,h3⟩
 | cons ch t =>
  have hb0:((BA (Af (ch :: t)) 0).toNat:Int)=(ch.toNat:Int):=by rw [PL]
  simp only [List.length_cons] at hsz
  have hne:¬Af (ch :: t)=⟨#[]⟩:=fun e=>by
   have:=congrArg ByteArray.size e
   rw [hsz] at this
   cases this
  by_cases hc:ch=m
  ·have hci:(ch.toNat:Int)=(m.toNat:Int):=by rw [hc]
   by_cases hn:∃n,Cq (Af t) n
   ·obtain ⟨n,hn⟩:=hn
    have hfn:=hn.1
    unfold AC at hfn
    have hv0:Dy (ch :: t) m lo hi=if n<lo then .error 10 else if hi<n then .error 12 else .ok n:=by
     unfold Dy
     simp only
     rw [if_pos hc,FW hn]
    by_cases h1:n<lo
    ·have hv:=hv0.trans (if_pos h1)
     repeat' (first|(apply ZO;exact rfl;first|(apply Zt;exact rfl;exact rfl)|(apply ZG;exact rfl;exact rfl)|(apply ZA;exact rfl;exact rfl)|(apply ZI (q:=0) (s:=Af (ch :: t));exact T.str9;exact rfl;exact rfl;exact rfl;omega;exact rfl)|(apply ZH (r:=Af t);exact T.str9;exact rfl;exact rfl;omega;omega;exact EE ch t;exact rfl)|(apply ZP (f:=125);exact rfl;exact rfl;exact rfl;exact EF hn (TabIs.ext hT Kz);rintro _ w2 ⟨rfl,hx2⟩;refine Kc ?_;replace hbk:=hbk.ext (Kx hx2))|(apply ZC;exact rfl;exact rfl;exact rfl)|(apply Zaj;exact rfl;exact rfl;exact rfl)|(apply ZD;exact rfl;exact rfl;exact rfl)|(apply Zaw;exact rfl;exact rfl;exact rfl)|(apply ZL;exact rfl;exact rfl;exact rfl)|(apply ZB;exact T.f192_6;exact rfl;exact rfl)|(apply Zaf;exact rfl;exact rfl))|apply Zu|apply Zr|apply ZN|apply Zw|(apply Za;exact rfl;all_goals (intro h;try (exfalso;omega)))|apply Zan)
     all_goals try (exfalso;first|omega|exact hne (by assumption))
     apply ZO;exact rfl;apply ZJ;exact T.z58;exact rfl;exact rfl;exact hbk;exact rfl;exact rfl;(first|exact Nat.le_of_ble_eq_true rfl|(focus (simp [Value.cells];done)));(first|exact Enc.one _ _|(focus (simp [Value.oneCell'];done))|(focus (simp [Value.cells,Value.oneCell'];done))|exact Enc.oneAgg _ _);exact rfl;(first|exact .inl rfl|exact .inr (by simp [AA]));exact rfl;intro w3 hA3 hg3 hs3
     replace hA3:Blk w3.heap ar 192 [.slice p inp.length c,.int .i64 (a:Int),.int .i64 (r.left:Int),.int .i64 r.size,.slice pw r.words.length cw,.int .i64 (r.held:Int),.int .i64 10]:=hA3
     have h3:=(hR.xt (show Ext w w2 from Kz)).set hg3 hA3 rfl hla
     repeat' (first|(apply ZO;exact rfl;(apply Zt;exact rfl;exact rfl))|apply Zu|apply Zr|apply ZN|apply Zw|apply ZZ|apply Zx)
     refine Kr Tryz.results84 ?_
     unfold OQ
     rw [hv]
     exact ⟨FK (FrS.of_ext Kz) hg3,rfl,h3⟩
    ·by_cases h2:hi<n
     ·have hv:=hv0.trans ((if_neg h1).trans (if_pos h2))
      repeat' (first|(apply ZO;exact rfl;first|(apply Zt;exact rfl;exact rfl)|(apply ZG;exact rfl;exact rfl)|(apply ZA;exact rfl;exact rfl)|(apply ZI (q:=0) (s:=Af (ch :: t));exact T.str9;exact rfl;exact rfl;exact rfl;omega;exact rfl)|(apply ZH (r:=Af t);exact T.str9;exact rfl;exact rfl;omega;omega;exact EE ch t;exact rfl)|(apply ZP (f:=125);exact rfl;exact rfl;exact rfl;exact EF hn (TabIs.ext hT Kz);rintro _ w2 ⟨rfl,hx2⟩;refine Kc ?_;replace hbk:=hbk.ext (Kx hx2))|(apply ZC;exact rfl;exact rfl;exact rfl)|(apply Zaj;exact rfl;exact rfl;exact rfl)|(apply ZD;exact rfl;exact rfl;exact rfl)|(apply Zaw;exact rfl;exact rfl;exact rfl)|(apply ZaN;exact rfl;exact rfl;exact rfl)|(apply ZL;exact rfl;exact rfl;exact rfl)|(apply ZB;exact T.f192_6;exact rfl;exact rfl)|(apply Zaf;exact rfl;exact rfl))|apply Zu|apply Zr|apply ZN|apply Zw|(apply Za;exact rfl;all_goals (intro h;try (exfalso;omega)))|apply Zan)
      all_goals try (exfalso;first|omega|exact hne (by assumption))
      apply ZO;exact rfl;apply ZJ;exact T.z58;exact rfl;exact rfl;exact hbk;exact rfl;exact rfl;(first|exact Nat.le_of_ble_eq_true rfl|(focus (simp [Value.cells];done)));(first|exact Enc.one _ _|(focus (simp [Value.oneCell'];done))|(focus (simp [Value.cells,Value.oneCell'];done))|exact Enc.oneAgg _ _);exact rfl;(first|exact .inl rfl|exact .inr (by simp [AA]));exact rfl;intro w3 hA3 hg3 hs3
      replace hA3:Blk w3.heap ar 192 [.slice p inp.length c,.int .i64 (a:Int),.int .i64 (r.left:Int),.int .i64 r.size,.slice pw r.words.length cw,.int .i64 (r.held:Int),.int .i64 12]:=hA3
      have h3:=(hR.xt (show Ext w w2 from Kz)).set hg3 hA3 rfl hla
      repeat' (first|(apply ZO;exact rfl;(apply Zt;exact rfl;exact rfl))|apply Zu|apply Zr|apply ZN|apply Zw|apply ZZ|apply Zx)
      refine Kr Tryz.results84 ?_
      unfold OQ
      rw [hv]
      exact ⟨FK (FrS.of_ext Kz) hg3,rfl,h3⟩
     ·have hv:=hv0.trans ((if_neg h1).trans (if_neg h2))
      repeat' (first|(apply ZO;exact rfl;first|(apply Zt;exact rfl;exact rfl)|(apply ZG;exact rfl;exact rfl)|(apply ZI (q:=0) (s:=Af (ch :: t));exact T.str9;exact rfl;exact rfl;exact rfl;omega;exact rfl)|(apply ZH (r:=Af t);exact T.str9;exact rfl;exact rfl;omega;omega;exact EE ch t;exact rfl)|(apply ZP (f:=125);exact rfl;exact rfl;exact rfl;exact EF hn (TabIs.ext hT Kz);rintro _ w2 ⟨rfl,hx2⟩;refine Kc ?_;replace hbk:=hbk.ext (Kx hx2))|(apply ZC;exact rfl;exact rfl;exact rfl)|(apply Zaj;exact rfl;exact rfl;exact rfl)|(apply ZD;exact rfl;exact rfl;exact rfl)|(apply Zaw;exact rfl;exact rfl;exact rfl)|(apply ZaN;exact rfl;exact rfl;exact rfl)|(apply ZL;exact rfl;exact rfl;exact rfl)|(apply Zaf;exact rfl;exact rfl))|apply Zu|apply Zr|apply ZN|apply Zw|(apply Za;exact rfl;all_goals (intro h;try (exfalso;omega)))|apply Zan|apply ZZ)
      all_goals try (exfalso;first|omega|exact hne (by assumption))
      refine Kr Tryz.results84 ?_
      unfold OQ
      rw [hv]
      have hx02:Ext w w2:=Kz
      exact ⟨FrS.of_ext hx02,rfl,hR.xt hx02⟩
   ·have hv:Dy (ch :: t) m lo hi=.error 10:=by
     unfold Dy
     simp only
     rw [if_pos hc,Kq (fun n h=>hn ⟨n,h⟩)]
    repeat' (first|(apply ZO;exact rfl;first|(apply Zt;exact rfl;exact rfl)|(apply ZG;exact rfl;exact rfl)|(apply ZA;exact rfl;exact rfl)|(apply ZI (q:=0) (s:=Af (ch :: t));exact T.str9;exact rfl;exact rfl;exact rfl;omega;exact rfl)|(apply ZH (r:=Af t);exact T.str9;exact rfl;exact rfl;omega;omega;exact EE ch t;exact rfl)|(apply ZP (f:=125);exact rfl;exact rfl;exact rfl;exact Sk (fun n h=>hn ⟨n,h⟩) (TabIs.ext hT Kz) (hE.ext Kz);rintro _ w2 ⟨rfl,hx2⟩;refine Kc ?_;replace hbk:=hbk.ext (Kx hx2))|(apply ZC;exact rfl;exact rfl;exact rfl)|(apply Zaj;exact rfl;exact rfl;exact rfl)|(apply ZD;exact rfl;exact rfl;exact rfl)|(apply Zak;exact rfl;exact rfl;exact rfl)|(apply ZL;exact rfl;exact rfl;exact rfl)|(apply ZB;exact T.f192_6;exact rfl;exact rfl)|(apply ZaK;exact rfl;exact rfl))|apply Zu|apply Zr|apply ZN|apply Zw|(apply ZR;exact rfl)|(apply Za;exact rfl;all_goals (intro h;try (exfalso;omega)))|(apply Zbe;exact rfl;exact rfl)|apply Zan)
    all_goals try (exfalso;first|omega|exact hne (by assumption))
    apply ZO;exact rfl;apply ZJ;exact T.z58;exact rfl;exact rfl;exact hbk;exact rfl;exact rfl;(first|exact Nat.le_of_ble_eq_true rfl|(focus (simp [Value.cells];done)));(first|exact Enc.one _ _|(focus (simp [Value.oneCell'];done))|(focus (simp [Value.cells,Value.oneCell'];done))|exact Enc.oneAgg _ _);exact rfl;(first|exact .inl rfl|exact .inr (by simp [AA]));exact rfl;intro w3 hA3 hg3 hs3
    replace hA3:Blk w3.heap ar 192 [.slice p inp.length c,.int .i64 (a:Int),.int .i64 (r.left:Int),.int .i64 r.size,.slice pw r.words.length cw,.int .i64 (r.held:Int),.int .i64 10]:=hA3
    have h3:=(hR.xt (show Ext w w2 from Kz)).set hg3 hA3 rfl hla
    repeat' (first|(apply ZO;exact rfl;(apply Zt;exact rfl;exact rfl))|apply Zu|apply Zr|apply ZN|apply Zw|apply ZZ|apply Zx)
    refine Kr Tryz.results84 ?_
    unfold OQ
    rw [hv]
    exact ⟨FK (FrS.of_ext Kz) hg3,rfl,h3⟩
  ·have hci:¬(ch.toNat:Int)=(m.toNat:Int):=FM hc
   have hv:Dy (ch :: t) m lo hi=.error 10:=by
    unfold Dy
    simp only
    rw [if_neg hc]
   repeat' (first|(apply ZO;exact rfl;first|(apply Zt;exact rfl;exact rfl)|(apply ZG;exact rfl;exact rfl)|(apply ZA;exact rfl;exact rfl)|(apply ZI (q:=0) (s:=Af (ch :: t));exact T.str9;exact rfl;exact rfl;exact rfl;omega;exact rfl)|(apply ZC;exact rfl;exact rfl;exact rfl)|(apply Zaj;exact rfl;exact rfl;exact rfl)|(apply ZL;exact rfl;exact rfl;exact rfl)|(apply ZB;exact T.f192_6;exact rfl;exact rfl))|apply Zu|apply Zr|apply ZN|apply Zw|(apply Za;exact rfl;all_goals (intro h;try (exfalso;omega))))
   all_goals try (exfalso;first|omega|exact hne (by assumption))
   all_goals
    apply ZO;exact rfl;apply ZJ;exact T.z58;exact rfl;exact rfl;exact hbk;exact rfl;exact rfl;(first|exact Nat.le_of_ble_eq_true rfl|(focus (simp [Value.cells];done)));(first|exact Enc.one _ _|(focus (simp [Value.oneCell'];done))|(focus (simp [Value.cells,Value.oneCell'];done))|exact Enc.oneAgg _ _);exact rfl;(first|exact .inl rfl|exact .inr (by simp [AA]));exact rfl;intro w3 hA3 hg3 hs3
    replace hA3:Blk w3.heap ar 192 [.slice p inp.length c,.int .i64 (a:Int),.int .i64 (r.left:Int),.int .i64 r.size,.slice pw r.words.length cw,.int .i64 (r.held:Int),.int .i64 10]:=hA3
    have h3:=(hR.xt (show Ext w w from Kz)).set hg3 hA3 rfl hla
    repeat' (first|(apply ZO;exact rfl;(apply Zt;exact rfl;exact rfl))|apply Zu|apply Zr|apply ZN|apply Zw|apply ZZ|apply Zx)
    refine Kr Tryz.results84 ?_
    unfold OQ
    rw [hv]
    exact ⟨FK (FrS.of_ext Kz) hg3,rfl,h3⟩
inductive Tp where
 | more (r:RS) (k:Nat)
 | err (e:Int)
 | ok (s:List UInt8) (h k:Nat)
noncomputable def CE (r:RS) (cs:List UInt8) (k:Nat):Tp :=
 if cs.length<r.size.toNat+2 then .more r k
 else if (cs.drop r.size.toNat).take 2=[13,10] then .ok (cs.take r.size.toNat) (r.held+(r.size.toNat+2)) (k+(r.size.toNat+2)) else .err 10
noncomputable def FN (r:RS) (cs:List UInt8):Tp :=
 if r.size<0 then
  match Dn cs with
  | .more=>.more r 0
  | .err e=>.err e
  | .ok s k=>match Dy s 36 0 4096 with
   | .error e=>.err e
   | .ok n=>CE { r with size:=n,held:=r.held+k } (cs.drop k) k
 else CE r cs 0
theorem Md {r:RS} {cs:List UInt8} (hl:0<r.left) (hs:0≤r.size) (k:Nat):match CE r cs k with
  | .more r' k'=>r'=r∧k'=k∧BD r cs=⟨[],r,cs,0⟩
  | .err e=>(BD r cs).out=[]∧(BD r cs).err=e
  | .ok s h k'=>∃j,k'=k+j∧j≤cs.length∧0<j∧BD r cs=if r.left=1 then { BD rs0 (cs.drop j) with out:=(r.words++[Af s]) :: (BD rs0 (cs.drop j)).out } else BD ⟨r.left - 1,-1,r.words++[Af s],h⟩ (cs.drop j):=by
 have hst:Bf r cs=if cs.length<r.size.toNat+2 then .stop else if (cs.drop r.size.toNat).take 2=[13,10] then (if r.left=1 then .go rs0 (r.size.toNat+2) [r.words++[Af (cs.take r.size.toNat)]] else .go ⟨r.left - 1,-1,r.words++[Af (cs.take r.size.toNat)],r.held+(r.size.toNat+2)⟩ (r.size.toNat+2) []) else .fault 10:=by
  unfold Bf
  rw [if_neg (by omega),if_neg (by omega)]
 unfold CE
 by_cases h1:cs.length<r.size.toNat+2
 ·rw [if_pos h1] at hst ⊢
  exact ⟨rfl,rfl,GG hst⟩
 ·rw [if_neg h1] at hst ⊢
  by_cases h2:(cs.drop r.size.toNat).take 2=[13,10]
  ·rw [if_pos h2] at hst ⊢
   refine ⟨r.size.toNat+2,rfl,by omega,by omega,?_⟩
   by_cases h3:r.left=1
   ·rw [if_pos h3] at hst ⊢
    rw [run_go hst]
    rfl
   ·rw [if_neg h3] at hst ⊢
    rw [run_go hst]
    simp
  ·rw [if_neg h2] at hst ⊢
   rw [DC hst]
   exact ⟨rfl,rfl⟩
theorem Vi {r:RS} {cs:List UInt8} (hl:0<r.left):match FN r cs with
  | .more r' k=>k≤cs.length∧r'.left=r.left∧r'.words=r.words∧BD r cs=⟨[],r',cs.drop k,0⟩
  | .err e=>(BD r cs).out=[]∧(BD r cs).err=e
  | .ok s h k=>k≤cs.length∧0<k∧BD r cs=if r.left=1 then { BD rs0 (cs.drop k) with out:=(r.words++[Af s]) :: (BD rs0 (cs.drop k)).out } else BD ⟨r.left - 1,-1,r.words++[Af s],h⟩ (cs.drop k):=by
 unfold FN
 by_cases hs:r.size<0
 ·rw [if_pos hs]
  have hst:Bf r cs=match Dn cs with
   | .more=>.stop
   | .err e=>.fault e
   | .ok s k=>match Dy s 36 0 4096 with
    | .error e=>.fault e
    | .ok n=>.go { r with size:=n,held:=r.held+k } k []:=by
   unfold Bf
   rw [if_neg (by omega),if_pos hs]
   all_goals rfl
  cases hln:Dn cs with
  | more =>
   rw [hln] at hst
   exact ⟨Nat.zero_le _,rfl,rfl,by rw [GG hst,List.drop_zero]⟩
  | err e =>
   rw [hln] at hst
   rw [DC hst]
   exact ⟨rfl,rfl⟩
  | ok s k =>
   rw [hln] at hst
   have hk:=DT hln
   simp only at hst ⊢
   cases hn:Dy s 36 0 4096 with
   | error e =>
    rw [hn] at hst
    rw [DC hst]
    exact ⟨rfl,rfl⟩
   | ok n =>
    rw [hn] at hst
    have hnb:=Kt hn
    simp only at hst ⊢
    have key:=Md (r:={ r with size:=n,held:=r.held+k }) (cs:=cs.drop k) hl hnb.1 k
    rw [run_go hst]
    simp only [List.nil_append]
    cases hz:CE { r with size:=n,held:=r.held+k } (cs.drop k) k with
    | more r' k' =>
     rw [hz] at key
     obtain ⟨rfl,rfl,h3⟩:=key
     exact ⟨hk.2,rfl,rfl,by rw [h3]⟩
    | err e =>
     rw [hz] at key
     exact key
    | ok s' h k' =>
     rw [hz] at key
     obtain ⟨j,rfl,h3,h4,h5⟩:=key
     rw [List.length_drop] at h3
     rw [List.drop_drop] at h5
     exact ⟨by omega,by omega,h5⟩
 ·rw [if_neg hs]
  have key:=Md (r:=r) (cs:=cs) hl (by omega) 0
  cases hz:CE r cs 0 with
  | more r' k' =>
   rw [hz] at key
   obtain ⟨rfl,rfl,h3⟩:=key
   exact ⟨Nat.zero_le _,rfl,rfl,by rw [h3,List.drop_zero]⟩
  | err e =>
   rw [hz] at key
   exact key
  | ok s' h k' =>
   rw [hz] at key
   obtain ⟨j,rfl,h3,h4,h5⟩:=key
   rw [Nat.zero_add]
   exact ⟨h3,h4,h5⟩
def FJ (w0 w:World) (ar B:Nat) (p:Option Addr) (c:Nat) (inp:List UInt8) (a:Nat) (pw:Option Addr) (cw:Nat) (r:RS) (x:Tp) (v:Value) (w':World):Prop :=
 FrS (fun q=>q=ar) w w'∧match x with
 | .more r' k=>v=.tuple #[.string ⟨#[]⟩,.bool false]∧Ba w0 w' ar B p c inp (a+k) pw cw r' 0
 | .err e=>v=.tuple #[.string ⟨#[]⟩,.bool false]∧∃a' r',Ba w0 w' ar B p c inp a' pw cw r' e
 | .ok s h k=>v=.tuple #[.string (Af s),.bool true]∧Ba w0 w' ar B p c inp (a+k) pw cw { r with size:=-1,held:=h } 0
theorem BP {w w1 w2:World} {b:Nat} (h:w.grownBy w1 (some b)) (k:w1.grownBy w2 (some b)):w.grownBy w2 (some b) :=
 ⟨k.os.trans h.os,k.tape.trans h.tape,k.output.trans h.output,Nat.le_trans h.size k.size,fun q hq hne=>(k.block q (Nat.lt_of_lt_of_le hq h.size) hne).trans (h.block q hq hne)⟩
theorem Ti {w0:World} {ar B:Nat} {p:Option Addr} {c:Nat} {inp:List UInt8} {a:Nat} {pw:Option Addr} {cw:Nat} {r:RS} {w:World} (hR:Ba w0 w ar B p c inp a pw cw r 0) (hN:inp.length≤1000000000) (hH:r.held+(inp.length - a)≤1000000000) (hs0:-1≤r.size) (hs1:r.size≤4096) (hT:Pow w0) (hE:CL w0) :
  Ctr Tryz.prog 81 [.pointer (some (adr (bx ar) 0))] w (FJ w0 w ar B p c inp a pw cw r (FN r (inp.drop a))):=by
 obtain ⟨W0,hW0⟩:∃x,FN r (inp.drop a)=x:=⟨_,rfl⟩
 have hW:=hW0
 unfold FN at hW
 have hbk0:=hR.blk
 refine Ac Tryz.func81 Tryz.ntmps81 rfl rfl rfl ?_
 by_cases hsz:r.size<0
 ·rw [if_pos hsz] at hW
  have hline:=LP hR hN
  cases hl:Dn (inp.drop a) with
  | more =>
   rw [hl] at hW hline
   simp only at hW
   repeat' (first|refine R1 ?_|(refine Q1 ?_;first|(refine Q2 (hu:=T.f192_3) ?_)|(refine Q3 (hu:=T.p3) ?_))|refine R2 ?_|(apply Za;exact rfl;all_goals (intro h;try (exfalso;omega)))|fail)
   refine Q1 ?_;refine Q4 (f:=82) (hc:=hline) ?_;intro v w2 hv;refine ⟨.inl rfl,?_⟩
   obtain ⟨hF2,rfl,hR2⟩:=hv
   repeat' (first|refine R1 ?_|refine R2 ?_|fail)
   refine Kr Tryz.results81 ?_
   unfold FJ
   rw [hW0,← hW]
   exact ⟨hF2,rfl,hR2⟩
  | err e =>
   rw [hl] at hW hline
   simp only at hW
   repeat' (first|refine R1 ?_|(refine Q1 ?_;first|(refine Q2 (hu:=T.f192_3) ?_)|(refine Q3 (hu:=T.p3) ?_))|refine R2 ?_|(apply Za;exact rfl;all_goals (intro h;try (exfalso;omega)))|fail)
   refine Q1 ?_;refine Q4 (f:=82) (hc:=hline) ?_;intro v w2 hv;refine ⟨.inl rfl,?_⟩
   obtain ⟨hF2,rfl,hR2⟩:=hv
   repeat' (first|refine R1 ?_|refine R2 ?_|fail)
   refine Kr Tryz.results81 ?_
   unfold FJ
   rw [hW0,← hW]
   exact ⟨hF2,rfl,a,r,hR2⟩
  | ok s k =>
   have hlk:=DT hl
   have hlk2:=(Jv hl).2.1
   have hlk3:=(Jv hl).2.2.2.2.2
   rw [List.length_drop] at hlk
   rw [hl] at hW hline
   simp only at hW
   repeat' (first|refine R1 ?_|(refine Q1 ?_;first|(refine Q2 (hu:=T.f192_3) ?_)|(refine Q3 (hu:=T.p3) ?_))|refine R2 ?_|(apply Za;exact rfl;all_goals (intro h;try (exfalso;omega)))|fail)
   refine Q1 ?_;refine Q4 (f:=82) (hc:=hline) ?_;intro v w2 hv;refine ⟨.inl rfl,?_⟩
   obtain ⟨hF2,rfl,hR2⟩:=hv
   have hnum:=IB (m:=36) (mi:=36) (s:=s) (lo:=0) (hi:=4096) hR2 rfl (by omega) hT hE
   have hlk4:s.length≤1000000000:=by omega
   cases hn:Dy s 36 0 4096 with
   | error e =>
    rw [hn] at hW hnum
    simp only at hW
    repeat' (first|refine R1 ?_|refine R2 ?_|fail)
    refine Q1 ?_;refine Q4 (f:=84) (hc:=hnum) ?_;intro v w3 hv;refine ⟨.inl rfl,?_⟩
    obtain ⟨hF3,rfl,hR3⟩:=hv
    repeat' (first|refine R1 ?_|refine R2 ?_|fail)
    refine Kr Tryz.results81 ?_
    unfold FJ
    rw [hW0,← hW]
    exact ⟨hF2.trans hF3 (fun _ _ h=>h),rfl,_,r,hR3⟩
   | ok n =>
    have hnb:=Kt hn
    rw [hn] at hW hnum
    simp only [List.drop_drop] at hW
    repeat' (first|refine R1 ?_|refine R2 ?_|fail)
    refine Q1 ?_;refine Q4 (f:=84) (hc:=hnum) ?_;intro v w3 hv;refine ⟨.inl rfl,?_⟩
    obtain ⟨hF3,rfl,hR3⟩:=hv
    have hbk3:=hR3.blk
    have hss:=BR s
    have hla3:=hR3.la
    repeat' (first|refine R1 ?_|(refine Q1 ?_;(refine Q2 (hu:=T.f192_3) ?_))|refine R2 ?_|fail)
    refine Q1 ?_;refine Q5 T.z3 hbk3 ?_;intro w4 hA4 hg4 hs4
    repeat' (first|refine R1 ?_|(refine Q1 ?_;first|(refine Q2 (hu:=T.f192_5) ?_)|(refine Q3 (hu:=T.p3) ?_)|refine Q17 T.str9 ?_)|refine R2 ?_|fail)
    refine Q1 ?_;refine Q5 T.z3 hA4 ?_;intro w5 hA5 hg5 hs5
    replace hA5:Blk w5.heap ar 192 [.slice p inp.length c,.int .i64 ((a+k:Nat):Int),.int .i64 (r.left:Int),.int .i64 n,.slice pw r.words.length cw,.int .i64 ((r.held:Int)+(((Af s).size:Int)+2)),.int .i64 0]:=hA5
    rw [show (r.held:Int)+(((Af s).size:Int)+2)=((r.held+k:Nat):Int) by rw [hss];omega] at hA5
    have hgg:=BP hg4 hg5
    have hR5:=hR3.set (r':={ r with size:=n,held:=r.held+k }) hgg hA5 rfl hla3
    have hF5:=FK (hF2.trans hF3 (fun _ _ h=>h)) hgg
    obtain ⟨a1,ha1⟩:∃a1,a1=a+k:=⟨_,rfl⟩
    rw [← ha1] at hR5 hW
    rw [hW0]
    clear hbk0 hbk3 hA4 hA5 hnum hline hR3 hR2 hR
    have hX:=hR5
    have hF:=hF5
    obtain ⟨u,hu⟩:∃u:Nat,n=(u:Int):=⟨(n).toNat,by omega⟩
    have hbk:=hX.blk
    have hC:=hX.row.sl
    have hok:=hC.ok
    have hle:=hok.le
    have hla:=hX.la
    try simp only at hbk
    rw [hu] at hbk
    have hut:(n).toNat=u:=by rw [hu];exact Int.toNat_natCast u
    have hcl:(inp.drop a1).length=inp.length - a1:=List.length_drop
    have hD:Sl w5.heap Ai (AP p c a1 1) (c - a1) (inp.drop a1):=hC.drop (by omega)
    have hokD:Okp (AP p c a1 1) (inp.length - a1) (c - a1):=hcl ▸ hD.ok
    have hleD:=hokD.le
    unfold CE at hW
    simp only [hut,hcl] at hW
    by_cases hmr:inp.length - a1<u+2
    ·rw [if_pos hmr] at hW
     repeat' (first|refine R1 ?_|(refine Q1 ?_;first|(refine Q18 T.s40 hok (q:=a1) ?_)|(refine Q2 (hu:=by (first|exact T.f192_3|exact T.f192_0|exact T.f192_1)) ?_)|(refine Q3 (hu:=by (first|exact T.p3|exact T.p40)) ?_)|(refine Q6 (hu:=T.s40) ?_))|refine R2 ?_|(apply Za;exact rfl;all_goals (intro h;try (exfalso;omega)))|refine Zf 1 [] [0,1,2,3,4,5,6,7,8,9] mixed (by decide +kernel) ?_|fail)
     all_goals try (exfalso;omega)
     refine Kr Tryz.results81 ?_
     unfold FJ
     rw [← hW]
     exact ⟨hF.trans (FrS.of_ext (F:=fun q=>q=ar) Kz) (fun _ _ h=>h),rfl,by rw [← ha1];exact hX.xt Kz⟩
    ·rw [if_neg hmr] at hW
     obtain ⟨x2,hx2'⟩:=Aj (xs:=inp.drop a1) (k:=u) (by omega)
     obtain ⟨y2,hy2'⟩:=Aj (xs:=inp.drop a1) (k:=u+1) (by omega)
     have hdu:((inp.drop a1).drop u).take 2=[x2,y2]:=by rw [drop_at hx2',drop_at hy2'];rfl
     have hS2:Sl w5.heap Ai (AP (AP p c a1 1) (c - a1) u 1) (c - a1 - u) [x2,y2]:=by
      have h1:=(hD.drop (l:=u) (by omega)).take 2
      rw [hdu] at h1
      exact h1
     rw [hdu] at hW
     by_cases hp2:[x2,y2]=([13,10]:List UInt8)
     ·rw [if_pos hp2] at hW
      have hcr:Af [x2,y2]=⟨#[13,10]⟩:=by rw [hp2];rfl
      have hS3:Sl w5.heap Ai (AP p c a1 1) (c - a1) ((inp.drop a1).take u):=hD.take u
      repeat' (first|refine R1 ?_|(refine Q1 ?_;first|(refine Q18 T.s40 hok (q:=a1) ?_)|(refine Q29 T.s40 (q:=u) (r:=u+2) (hj:=by omega) ?_)|(refine Q30 T.s40 T.i5 T.str9 (bs:=[x2,y2]) (hm:=by (simp only [List.length_cons,List.length_nil];omega)) (hs:=hS2.ext Kz) ?_)|refine Q57 hcr ?_|(refine Q23 T.s40 (q:=u) ?_)|(refine Q30 T.s40 T.i5 T.str9 (bs:=(inp.drop a1).take u) (hm:=by (rw [List.length_take];omega)) (hs:=hS3.ext Kz) ?_)|(refine Q2 (hu:=by (first|exact T.f192_3|exact T.f192_0|exact T.f192_1)) ?_)|(refine Q3 (hu:=by (first|exact T.p3|exact T.p40)) ?_)|(refine Q6 (hu:=T.s40) ?_))|refine R2 ?_|(apply Za;exact rfl;all_goals (intro h;try (exfalso;omega)))|refine Zf 1 [] [0,1,2,3,4,5,6,7,8,9] mixed (by decide +kernel) ?_|fail)
      all_goals try (exfalso;omega)
      refine Q1 ?_;refine Q5 T.z3 hbk ?_;intro v1 hV1 hj1 hn1
      repeat' (first|refine R1 ?_|(refine Q1 ?_;first|(refine Q2 (hu:=T.f192_5) ?_)|(refine Q3 (hu:=T.p3) ?_))|refine R2 ?_|fail)
      refine Q1 ?_;refine Q5 T.z3 hV1 ?_;intro v2 hV2 hj2 hn2
      repeat' (first|refine R1 ?_|(refine Q1 ?_;(refine Q2 (hu:=T.f192_3) ?_))|refine R2 ?_|fail)
      refine Q1 ?_;refine Q5 T.z3 hV2 ?_;intro v3 hV3 hj3 hn3
      replace hV3:Blk v3.heap ar 192 [.slice p inp.length c,.int .i64 ((a1:Int)+((u:Int)+2)),.int .i64 (r.left:Int),.int .i64 (-1),.slice pw r.words.length cw,.int .i64 ((((r.held+k):Nat):Int)+((u:Int)+2)),.int .i64 0]:=hV3
      rw [show (a1:Int)+((u:Int)+2)=((a1+(u+2):Nat):Int) by omega,show (((r.held+k):Nat):Int)+((u:Int)+2)=(((r.held+k)+(u+2):Nat):Int) by omega] at hV3
      repeat' (first|refine R1 ?_|refine R2 ?_|fail)
      refine Kr Tryz.results81 ?_
      unfold FJ
      rw [← hW]
      have hxx:Ext w5 w5:=Ext.rfl'
      have hjj:=BP (BP hj1 hj2) hj3
      have hl2:a1+(u+2)≤inp.length:=by omega
      have h4:=(hX.xt (Ext.drew hxx)).set (r':={ r with size:=-1,held:=(r.held+k)+(u+2) }) hjj hV3 rfl hl2
      refine ⟨FK (hF.trans (FrS.of_ext (F:=fun q=>q=ar) (Ext.drew hxx)) (fun _ _ h=>h)) hjj,rfl,?_⟩
      rw [show a+(k+(u+2))=a1+(u+2) by omega]
      exact h4
     ·rw [if_neg hp2] at hW
      have hcr:¬Af [x2,y2]=⟨#[13,10]⟩:=fun e=>hp2 (by
       have e2:(⟨#[13,10]⟩:ByteArray)=Af [13,10]:=rfl
       rw [e2] at e
       exact Fz.1 e)
      repeat' (first|refine R1 ?_|(refine Q1 ?_;first|(refine Q18 T.s40 hok (q:=a1) ?_)|(refine Q29 T.s40 (q:=u) (r:=u+2) (hj:=by omega) ?_)|(refine Q30 T.s40 T.i5 T.str9 (bs:=[x2,y2]) (hm:=by (simp only [List.length_cons,List.length_nil];omega)) (hs:=hS2.ext Kz) ?_)|refine Q51 hcr ?_|(refine Q2 (hu:=by (first|exact T.f192_3|exact T.f192_0|exact T.f192_1|exact T.f192_6)) ?_)|(refine Q3 (hu:=by (first|exact T.p3|exact T.p40)) ?_)|(refine Q6 (hu:=T.s40) ?_))|refine R2 ?_|(apply Za;exact rfl;all_goals (intro h;try (exfalso;omega)))|refine Zf 1 [] [0,1,2,3,4,5,6,7,8,9] mixed (by decide +kernel) ?_|fail)
      all_goals try (exfalso;omega)
      refine Q1 ?_;refine Q5 T.z58 hbk ?_;intro v1 hV1 hj1 hn1
      replace hV1:Blk v1.heap ar 192 [.slice p inp.length c,.int .i64 (a1:Int),.int .i64 (r.left:Int),.int .i64 (u:Int),.slice pw r.words.length cw,.int .i64 (((r.held+k):Nat):Int),.int .i64 10]:=hV1
      repeat' (first|refine R1 ?_|refine R2 ?_|fail)
      refine Kr Tryz.results81 ?_
      unfold FJ
      rw [← hW]
      have hxx:Ext w5 w5:=Ext.rfl'
      exact ⟨FK (hF.trans (FrS.of_ext (F:=fun q=>q=ar) (Ext.drew hxx)) (fun _ _ h=>h)) hj1,rfl,a1,_,(hX.xt (Ext.drew hxx)).set (r':={ r with size:=(u:Int),held:=(r.held+k) }) hj1 hV1 rfl hla⟩
 ·rw [if_neg hsz] at hW
  obtain ⟨a1,ha1⟩:∃a1,a1=a+0:=⟨_,rfl⟩
  have ha1':a1=a:=by omega
  have hR1:Ba w0 w ar B p c inp a1 pw cw r 0:=by rw [ha1'];exact hR
  rw [← ha1'] at hW
  rw [hW0]
  clear hbk0
  have hW:CE r (inp.drop a1) 0=W0:=hW
  have hX:=hR1
  have hF:=(FrS.of_ext (F:=fun q=>q=ar) (Ext.rfl' (w:=w)))
  obtain ⟨u,hu⟩:∃u:Nat,r.size=(u:Int):=⟨(r.size).toNat,by omega⟩
  have hbk:=hX.blk
  have hC:=hX.row.sl
  have hok:=hC.ok
  have hle:=hok.le
  have hla:=hX.la
  try simp only at hbk
  rw [hu] at hbk
  have hut:(r.size).toNat=u:=by rw [hu];exact Int.toNat_natCast u
  have hcl:(inp.drop a1).length=inp.length - a1:=List.length_drop
  have hD:Sl w.heap Ai (AP p c a1 1) (c - a1) (inp.drop a1):=hC.drop (by omega)
  have hokD:Okp (AP p c a1 1) (inp.length - a1) (c - a1):=hcl ▸ hD.ok
  have hleD:=hokD.le
  unfold CE at hW
  simp only [hut,hcl] at hW
  by_cases hmr:inp.length - a1<u+2
  ·rw [if_pos hmr] at hW
   repeat' (first|refine R1 ?_|(refine Q1 ?_;first|(refine Q18 T.s40 hok (q:=a1) ?_)|(refine Q2 (hu:=by (first|exact T.f192_3|exact T.f192_0|exact T.f192_1)) ?_)|(refine Q3 (hu:=by (first|exact T.p3|exact T.p40)) ?_)|(refine Q6 (hu:=T.s40) ?_))|refine R2 ?_|(apply Za;exact rfl;all_goals (intro h;try (exfalso;omega)))|refine Zf 1 [] [0,1,2,3,4,5,6,7,8,9] mixed (by decide +kernel) ?_|fail)
   all_goals try (exfalso;omega)
   refine Kr Tryz.results81 ?_
   unfold FJ
   rw [← hW]
   exact ⟨hF.trans (FrS.of_ext (F:=fun q=>q=ar) Kz) (fun _ _ h=>h),rfl,by rw [← ha1];exact hX.xt Kz⟩
  ·rw [if_neg hmr] at hW
   obtain ⟨x2,hx2'⟩:=Aj (xs:=inp.drop a1) (k:=u) (by omega)
   obtain ⟨y2,hy2'⟩:=Aj (xs:=inp.drop a1) (k:=u+1) (by omega)
   have hdu:((inp.drop a1).drop u).take 2=[x2,y2]:=by rw [drop_at hx2',drop_at hy2'];rfl
   have hS2:Sl w.heap Ai (AP (AP p c a1 1) (c - a1) u 1) (c - a1 - u) [x2,y2]:=by
    have h1:=(hD.drop (l:=u) (by omega)).take 2
    rw [hdu] at h1
    exact h1
   rw [hdu] at hW
   by_cases hp2:[x2,y2]=([13,10]:List UInt8)
   ·rw [if_pos hp2] at hW
    have hcr:Af [x2,y2]=⟨#[13,10]⟩:=by rw [hp2];rfl
    have hS3:Sl w.heap Ai (AP p c a1 1) (c - a1) ((inp.drop a1).take u):=hD.take u
    repeat' (first|refine R1 ?_|(refine Q1 ?_;first|(refine Q18 T.s40 hok (q:=a1) ?_)|(refine Q29 T.s40 (q:=u) (r:=u+2) (hj:=by omega) ?_)|(refine Q30 T.s40 T.i5 T.str9 (bs:=[x2,y2]) (hm:=by (simp only [List.length_cons,List.length_nil];omega)) (hs:=hS2.ext Kz) ?_)|refine Q57 hcr ?_|(refine Q23 T.s40 (q:=u) ?_)|(refine Q30 T.s40 T.i5 T.str9 (bs:=(inp.drop a1).take u) (hm:=by (rw [List.length_take];omega)) (hs:=hS3.ext Kz) ?_)|(refine Q2 (hu:=by (first|exact T.f192_3|exact T.f192_0|exact T.f192_1)) ?_)|(refine Q3 (hu:=by (first|exact T.p3|exact T.p40)) ?_)|(refine Q6 (hu:=T.s40) ?_))|refine R2 ?_|(apply Za;exact rfl;all_goals (intro h;try (exfalso;omega)))|refine Zf 1 [] [0,1,2,3,4,5,6,7,8,9] mixed (by decide +kernel) ?_|fail)
    all_goals try (exfalso;omega)
    refine Q1 ?_;refine Q5 T.z3 hbk ?_;intro v1 hV1 hj1 hn1
    repeat' (first|refine R1 ?_|(refine Q1 ?_;first|(refine Q2 (hu:=T.f192_5) ?_)|(refine Q3 (hu:=T.p3) ?_))|refine R2 ?_|fail)
    refine Q1 ?_;refine Q5 T.z3 hV1 ?_;intro v2 hV2 hj2 hn2
    repeat' (first|refine R1 ?_|(refine Q1 ?_;(refine Q2 (hu:=T.f192_3) ?_))|refine R2 ?_|fail)
    refine Q1 ?_;refine Q5 T.z3 hV2 ?_;intro v3 hV3 hj3 hn3
    replace hV3:Blk v3.heap ar 192 [.slice p inp.length c,.int .i64 ((a1:Int)+((u:Int)+2)),.int .i64 (r.left:Int),.int .i64 (-1),.slice pw r.words.length cw,.int .i64 (((r.held:Nat):Int)+((u:Int)+2)),.int .i64 0]:=hV3
    rw [show (a1:Int)+((u:Int)+2)=((a1+(u+2):Nat):Int) by omega,show ((r.held:Nat):Int)+((u:Int)+2)=((r.held+(u+2):Nat):Int) by omega] at hV3
    repeat' (first|refine R1 ?_|refine R2 ?_|fail)
    refine Kr Tryz.results81 ?_
    unfold FJ
    rw [← hW]
    have hxx:Ext w w:=Ext.rfl'
    have hjj:=BP (BP hj1 hj2) hj3
    have hl2:a1+(u+2)≤inp.length:=by omega
    have h4:=(hX.xt (Ext.drew hxx)).set (r':={ r with size:=-1,held:=r.held+(u+2) }) hjj hV3 rfl hl2
    refine ⟨FK (hF.trans (FrS.of_ext (F:=fun q=>q=ar) (Ext.drew hxx)) (fun _ _ h=>h)) hjj,rfl,?_⟩
    rw [show a+(0+(u+2))=a1+(u+2) by omega]
    exact h4
   ·rw [if_neg hp2] at hW
    have hcr:¬Af [x2,y2]=⟨#[13,10]⟩:=fun e=>hp2 (by
     have e2:(⟨#[13,10]⟩:ByteArray)=Af [13,10]:=rfl
     rw [e2] at e
     exact Fz.1 e)
    repeat' (first|refine R1 ?_|(refine Q1 ?_;first|(refine Q18 T.s40 hok (q:=a1) ?_)|(refine Q29 T.s40 (q:=u) (r:=u+2) (hj:=by omega) ?_)|(refine Q30 T.s40 T.i5 T.str9 (bs:=[x2,y2]) (hm:=by (simp only [List.length_cons,List.length_nil];omega)) (hs:=hS2.ext Kz) ?_)|refine Q51 hcr ?_|(refine Q2 (hu:=by (first|exact T.f192_3|exact T.f192_0|exact T.f192_1|exact T.f192_6)) ?_)|(refine Q3 (hu:=by (first|exact T.p3|exact T.p40)) ?_)|(refine Q6 (hu:=T.s40) ?_))|refine R2 ?_|(apply Za;exact rfl;all_goals (intro h;try (exfalso;omega)))|refine Zf 1 [] [0,1,2,3,4,5,6,7,8,9] mixed (by decide +kernel) ?_|fail)
    all_goals try (exfalso;omega)
    refine Q1 ?_;refine Q5 T.z58 hbk ?_;intro v1 hV1 hj1 hn1
    replace hV1:Blk v1.heap ar 192 [.slice p inp.length c,.int .i64 (a1:Int),.int .i64 (r.left:Int),.int .i64 (u:Int),.slice pw r.words.length cw,.int .i64 ((r.held:Nat):Int),.int .i64 10]:=hV1
    repeat' (first|refine R1 ?_|refine R2 ?_|fail)
    refine Kr Tryz.results81 ?_
    unfold FJ
    rw [← hW]
    have hxx:Ext w w:=Ext.rfl'
    exact ⟨FK (hF.trans (FrS.of_ext (F:=fun q=>q=ar) (Ext.drew hxx)) (fun _ _ h=>h)) hj1,rfl,a1,_,(hX.xt (Ext.drew hxx)).set (r':={ r with size:=(u:Int),held:=r.held }) hj1 hV1 rfl hla⟩
end Go.Proofs.YtkcolpfanmdmiaaGreatDoor
namespace Go.V
variable {n : Nat} {l : List Oper}
variable {ty t : TypeId} {s : ByteArray}
theorem Q89 (hne:¬s=s') (h:G P n ops dr l (E.put d (.bool false)) w K) (hx:E.look x=some (.string s):=by exact rfl) (hy:E.look y=some (.string s'):=by exact rfl) (hd:Ah n d=true:=by exact rfl):G1 P n ops dr ⟨d,.binOp .eql t x y t',ty,pos,af,g⟩ l E w K :=
 ZC hx hy hd (by rw [decide_eq_false hne];exact h)
theorem Q90 (he:s=s') (h:G P n ops dr l (E.put d (.bool true)) w K) (hx:E.look x=some (.string s):=by exact rfl) (hy:E.look y=some (.string s'):=by exact rfl) (hd:Ah n d=true:=by exact rfl):G1 P n ops dr ⟨d,.binOp .eql t x y t',ty,pos,af,g⟩ l E w K :=
 ZC hx hy hd (by rw [decide_eq_true he];exact h)
theorem Q106 {f : FuncId} {fn : Func} {tys : Array TypeId} (hf : P.funcs[f]? = some fn) (hname : (fn.name == "runtime.NumGoroutine") = false) (hb : fn.body.isNone = true) (hn : Extern.findNext fn = none) (hfi : Extern.find fn = some Extern.BytealgIndexByte.indexByte) (hx : E.look x = some (.string s)) (hy : E.look y = some (.int .u8 i)) (he : Am P dr.1 ⟨d, .call ⟨.value (.func f), #[x, y], tys⟩, ty, pos, af, g⟩ = true) (hd : Ah n d = true) (h : G P n ops dr l (E.put d (.int .i64 (fst s.data.toList i.toNat.toUInt8))) w K) : G1 P n ops dr ⟨d, .call ⟨.value (.func f), #[x, y], tys⟩, ty, pos, af, g⟩ l E w K :=
 Zad hf hname hb hn hfi hx hy he hd (by rw [Lib.firstIdx_eq];exact h)
end Go.V
namespace Go.Proofs.YtkcolpfanmdmiaaGreatDoor
open Go.V
attribute [local irreducible] Blk Own hcell Ao Ab PlainT Ak Ad Ap Aa Ag EqT Au
theorem Qw:∀(r w:List UInt8),Dt w r=(if w++r.take (BM 32 r)=[] then [] else [w++r.take (BM 32 r)])++Dt [] (r.drop (BM 32 r+1))
 | [],w=>by simp [Dt,BM]
 | c :: l,w=>by
  rw [RD]
  by_cases hc:c=32
  ·have e:BM 32 (c :: l)=0:=if_pos hc
   rw [if_pos hc,e]
   simp only [List.take_zero,List.append_nil,Nat.zero_add,List.drop_succ_cons,List.drop_zero]
   split <;> simp
  ·have e:BM 32 (c :: l)=BM 32 l+1:=if_neg hc
   rw [if_neg hc,e,Qw l (w++[c])]
   simp
theorem PM (l:List UInt8):(Af l).data.toList=l:=by unfold Af;simp
def spc:ByteArray:=⟨#[32]⟩
theorem XD {s:List UInt8} {i:Int} {w:World}:Ctr Tryz.prog 353 [.string (Af s),.int .u8 i] w (fun v w'=>v=.int .i64 (fst s i.toNat.toUInt8)∧Ext w w'):=by
 refine Ac Tryz.func353 Tryz.ntmps353 rfl rfl rfl ?_
 repeat' (first|refine R1 ?_|(refine Q1 ?_;refine Q106 Tryz.func468 rfl rfl ib0 ib1 rfl rfl rfl rfl ?_)|refine R2 ?_|fail)
 refine Kr Tryz.results353 ?_
 exact ⟨by rw [PM];rfl,Kz⟩
theorem XE {s:List UInt8} {w:World}:Ctr Tryz.prog 247 [.string (Af s),.string spc] w (fun v w'=>v=.int .i64 (fst s 32)∧Ext w w'):=by
 have hb:((BA spc 0).toNat:Int)=32:=rfl
 have hz:spc.size=1:=rfl
 have hib:=fun w'=>XD (w:=w') (s:=s) (i:=32)
 refine Ac Tryz.func247 Tryz.ntmps247 rfl rfl rfl ?_
 by_cases he:spc=Af s
 ·have hs:s=[32]:=by
   have:Af [32]=Af s:=he
   exact (Fz.1 this).symm
  repeat' (first|refine R1 ?_|(refine Q1 ?_;first|refine Q90 he ?_|refine Q17 T.str9 ?_)|refine R2 ?_|fail)
  all_goals try (exfalso;omega)
  refine Kr Tryz.results247 ?_
  exact ⟨by rw [hs];rfl,Kz⟩
 ·repeat' (first|refine R1 ?_|(refine Q1 ?_;first|refine Q89 he ?_|(refine Q37 T.str9 (q:=0) (s:=spc) ?_)|(refine Q4 (f:=353) (hc:=hib _) ?_;rintro _ w2 ⟨rfl,hx2⟩;refine Kc ?_)|refine Q17 T.str9 ?_)|refine R2 ?_|fail)
  all_goals try (exfalso;omega)
  refine Kr Tryz.results247 ?_
  exact ⟨rfl,Kz⟩
theorem OB {s:List UInt8} {w:World} (hs:s.length≤1000000000) :
  Ctr Tryz.prog 126 [.string (Af s),.string spc] w (fun v w'=>(∃b,v=.tuple #[.string (Af (s.take (BM 32 s))),.string (Af (s.drop (BM 32 s+1))),.bool b])∧Ext w w'):=by
 have hsz:=BR s
 have hz:spc.size=1:=rfl
 have hle:=MB 32 s
 have hlc:∀w',Ctr Tryz.prog 190 [.string (Af s),.string spc] w' (fun v w''=>(∃b,v=.tuple #[.string (Af (s.take (BM 32 s))),.string (Af (s.drop (BM 32 s+1))),.bool b])∧Ext w' w''):=fun w'=>by
  have hix:=fun w'=>XE (w:=w') (s:=s)
  rw [Po] at hix
  refine Ac Tryz.func190 Tryz.ntmps190 rfl rfl rfl ?_
  by_cases hf:BM 32 s<s.length
  ·rw [if_pos hf] at hix
   have e1:(Af s).extract 0 (BM 32 s)=Af (s.take (BM 32 s)):=Km s _
   have e2:(Af s).extract (BM 32 s+1) (Af s).size=Af (s.drop (BM 32 s+1)):=by
    rw [Sj,hsz,List.take_of_length_le (by rw [List.length_drop];omega)]
   repeat' (first|(apply ZO;exact rfl;first|(apply Zt;exact rfl;exact rfl)|(apply ZG;exact rfl;exact rfl)|(apply ZP (f:=247);exact rfl;exact rfl;exact rfl;exact hix _;rintro _ w2 ⟨rfl,hx2⟩;refine Kc ?_)|(apply ZH (r:=Af (s.drop (BM 32 s+1)));exact T.str9;exact rfl;exact rfl;omega;omega;exact e2;exact rfl)|(apply ZaM;exact rfl;exact rfl;exact rfl)|(apply Zao;exact T.str9;exact rfl;exact rfl;omega;omega;exact rfl)|(apply ZaU;exact T.str9;exact rfl;exact rfl)|(apply ZaL;exact rfl;exact rfl;omega;omega;exact rfl))|apply Zu|apply Zr|apply ZN|apply Zw|(apply ZR;exact rfl)|refine Zf 1 [] [0,1,2,3,4,5,6,7,8,9,10,11] mixed (by decide +kernel) ?_|apply ZZ|apply Zx)
   all_goals try (exfalso;omega)
   refine Kr Tryz.results190 ?_
   refine ⟨⟨true,?_⟩,Kz⟩
   rw [← e1]
   rfl
  ·rw [if_neg hf] at hix
   repeat' (first|(apply ZO;exact rfl;first|(apply Zt;exact rfl;exact rfl)|(apply ZG;exact rfl;exact rfl)|(apply ZP (f:=247);exact rfl;exact rfl;exact rfl;exact hix _;rintro _ w2 ⟨rfl,hx2⟩;refine Kc ?_)|(apply ZaM;exact rfl;exact rfl;exact rfl))|apply Zu|apply Zr|apply ZN|apply Zw|(apply Zah;exact rfl)|apply Zan|apply ZZ)
   all_goals try (exfalso;omega)
   refine Kr Tryz.results190 ?_
   refine ⟨⟨false,?_⟩,Kz⟩
   rw [List.take_of_length_le (by omega),List.drop_of_length_le (by omega)]
   rfl
 refine Ac Tryz.func126 Tryz.ntmps126 rfl rfl rfl ?_
 repeat' (first|(apply ZO;exact rfl;first|(apply Zt;exact rfl;exact rfl)|(apply ZG;exact rfl;exact rfl)|(apply ZP (f:=190);exact rfl;exact rfl;exact rfl;exact hlc _;rintro _ w2 ⟨⟨b,rfl⟩,hx2⟩;refine Kc ?_)|(apply ZD;exact rfl;exact rfl;exact rfl))|apply Zu|apply Zr|apply ZN|apply Zw|apply ZZ)
 refine Kr Tryz.results126 ?_
 exact ⟨⟨b,rfl⟩,Kz⟩
theorem Qi {s:List UInt8} {w:World} (hs:s.length≤1000000) :
  Ctr Tryz.prog 85 [.string (Af s)] w (fun v w'=>∃p c,v=.slice p (Dt [] s).length c∧Go.V.Own w' w.heap.size 9 Ar p c ((Dt [] s).map Af)∧Ext w w'):=by
 refine Ac Tryz.func85 Tryz.ntmps85 rfl rfl rfl ?_
 repeat' (first|refine R1 ?_|refine R2 ?_|fail)
 refine Zh (ι:=List UInt8 × List (List UInt8) × Option Addr × Nat) (fun y=>[(0,.string (Af y.1)),(3,.slice y.2.2.1 (y.2.1.map Af).length y.2.2.2)])
  (fun y w'=>Ext w w'∧Go.V.Own w' w.heap.size 9 Ar y.2.2.1 y.2.2.2 (y.2.1.map Af)∧y.2.1++Dt [] y.1=Dt [] s∧y.1.length+y.2.1.length≤s.length) (fun y=>y.1.length) (s,[],none,0) ⟨rfl,rfl,trivial⟩
  ⟨Kz,Own.nil _ _ _ _,rfl,Nat.le_refl _⟩ ?_
 rintro ⟨u,os,p,c⟩ w2 ⟨hx2,hO,hcut,hul⟩
 simp only at hO hcut hul
 refine Zn [(0,.string (Af u)),(3,.slice p (os.map Af).length c)] ⟨rfl,rfl,trivial⟩ ?_
 have hge:=hO.ge
 have hz2:=hx2.size
 have hom:(os.map Af).length=os.length:=by simp
 by_cases hu0:u=[]
 ·have hue:Af u=⟨#[]⟩:=(FB u).2 hu0
  have e0:Dt [] u=[]:=by rw [hu0];rfl
  rw [e0,List.append_nil] at hcut
  repeat' (first|refine R1 ?_|(refine Q1 ?_;refine Q57 hue ?_)|refine R2 ?_|fail)
  refine Kr Tryz.results85 ?_
  exact ⟨p,c,by rw [← hcut,← hom];rfl,by rw [← hcut];exact hO,Kz⟩
 ·have hue:¬Af u=⟨#[]⟩:=fun h=>hu0 ((FB u).1 h)
  have hlu:0<u.length:=List.length_pos_iff.2 hu0
  have hle:=MB 32 u
  have hcs:=fun w'=>OB (w:=w') (s:=u) (by omega)
  rw [Qw u [],List.nil_append] at hcut
  have hdl:(u.drop (BM 32 u+1)).length<u.length:=by rw [List.length_drop];omega
  have hdl2:(u.drop (BM 32 u+1)).length+1+(u.take (BM 32 u)).length≤u.length+1:=by rw [List.length_drop,List.length_take];omega
  by_cases ht0:u.take (BM 32 u)=[]
  ·have hte:Af (u.take (BM 32 u))=⟨#[]⟩:=(FB _).2 ht0
   rw [if_pos ht0,List.nil_append] at hcut
   repeat' (first|refine R1 ?_|(refine Q1 ?_;first|refine Q51 hue ?_|(refine Q4 (f:=126) (hc:=hcs _) ?_;rintro _ w3 ⟨⟨b,rfl⟩,hx3⟩;refine Kc ?_;replace hO:=hO.ext hx3)|refine Q57 hte ?_)|refine R2 ?_|fail)
   exact Zc (u.drop (BM 32 u+1),os,p,c) ⟨rfl,rfl,trivial⟩ ⟨Kz,hO,hcut,by simp only;omega⟩ (by simp only;omega)
  ·have hte:¬Af (u.take (BM 32 u))=⟨#[]⟩:=fun h=>ht0 ((FB _).1 h)
   have htl:0<(u.take (BM 32 u)).length:=List.length_pos_iff.2 ht0
   rw [if_neg ht0] at hcut
   repeat' (first|refine R1 ?_|(refine Q1 ?_;first|refine Q51 hue ?_|(refine Q4 (f:=126) (hc:=hcs _) ?_;rintro _ w3 ⟨⟨b,rfl⟩,hx3⟩;refine Kc ?_;replace hO:=hO.ext hx3)|refine Q51 hte ?_)|refine R2 ?_|fail)
   refine Q1 ?_
   refine Q12 Ar (Af (u.take (BM 32 u))) T.s61 ?_
   intro p4 w4 hp4 hs4 _ hx4 hz4
   replace hO:=hO.ext hx4
   have hx24:Ext w w4:=Kz
   have hz24:=hx24.size
   repeat' (first|refine R1 ?_|(refine Q1 ?_;(refine Q16 T.s61 hO hs4 ?_;intro p5 c5 w5 ha5))|refine R2 ?_|fail)
   exact Zc (u.drop (BM 32 u+1),os++[u.take (BM 32 u)],p5,c5) ⟨rfl,by show _=some (Value.slice p5 ((os++[u.take (BM 32 u)]).map Af).length c5);simp;rfl,trivial⟩ ⟨hx24.app ha5 (fun k hk=>(hge k hk).1),by simp only [List.map_append];exact ha5.own,by simp only [List.append_assoc];exact hcut,by simp only [List.length_append,List.length_singleton];omega⟩ (by simp only;omega)
def ast:ByteArray:=⟨#[42]⟩
theorem NL {s:List UInt8} {w:World} (hs:s.length≤1000000000):Ctr Tryz.prog 83 [.string (Af s),.string ast] w (fun v w'=>v=.bool (decide (s.head?=some 42))∧Ext w w'):=by
 have hsz:=BR s
 have hz:ast.size=1:=rfl
 have hl:∀w',Ctr Tryz.prog 124 [.string (Af s),.string ast] w' (fun v w''=>v=.bool (decide (s.head?=some 42))∧Ext w' w''):=fun w'=>by
  refine Ac Tryz.func124 Tryz.ntmps124 rfl rfl rfl ?_
  cases s with
  | nil =>
   repeat' (first|refine R1 ?_|(refine Q1 ?_;refine Q17 T.str9 ?_)|refine R2 ?_|fail)
   all_goals try (exfalso;simp only [List.length_nil] at hsz;omega)
   refine Kr Tryz.results124 ?_
   exact ⟨rfl,Kz⟩
  | cons c t =>
   simp only [List.length_cons] at hsz
   have e1:(Af (c :: t)).extract 0 1=Af [c]:=Km (c :: t) 1
   by_cases hc:c=42
   ·have he:(Af (c :: t)).extract 0 1=ast:=by rw [e1,hc];rfl
    repeat' (first|refine R1 ?_|(refine Q1 ?_;first|refine Q90 he ?_|refine Q17 T.str9 ?_|refine Q92 T.str9 ?_)|refine R2 ?_|((fail_if_success (refine Q1 ?_));apply Zb;exact rfl;exact rfl;all_goals (intro h;try (exfalso;omega)))|fail)
    all_goals try (exfalso;omega)
    refine Kr Tryz.results124 ?_
    exact ⟨by rw [hc];rfl,Kz⟩
   ·have he:¬(Af (c :: t)).extract 0 1=ast:=fun e=>hc (by
     have e2:Af [c]=Af [42]:=e1.symm.trans e
     have:=Fz.1 e2
     simpa using this)
    have hd0:(decide ((c :: t).head?=some 42))=false:=decide_eq_false (by simpa using hc)
    repeat' (first|refine R1 ?_|(refine Q1 ?_;first|refine Q89 he ?_|refine Q17 T.str9 ?_|refine Q92 T.str9 ?_)|refine R2 ?_|((fail_if_success (refine Q1 ?_));apply Zb;exact rfl;exact rfl;all_goals (intro h;try (exfalso;omega)))|fail)
    all_goals try (exfalso;omega)
    refine Kr Tryz.results124 ?_
    exact ⟨by rw [hd0];rfl,Kz⟩
 refine Ac Tryz.func83 Tryz.ntmps83 rfl rfl rfl ?_
 repeat' (first|refine R1 ?_|(refine Q1 ?_;(refine Q4 (f:=124) (hc:=hl _) ?_;rintro _ w2 ⟨rfl,hx2⟩;refine Kc ?_))|refine R2 ?_|fail)
 refine Kr Tryz.results83 ?_
 exact ⟨rfl,Kz⟩
end Go.Proofs.YtkcolpfanmdmiaaGreatDoor
namespace Go.V
open Go.RowKit
inductive Tr where
 | leaf (c:List Nat)
 | node (c:List Nat) (b:Tr)
 | alt (i:Nat) (t r:Tr)
 | stop
def okp (ops:Array Oper) (ef rd wr:Oper→Bool):List Nat→Array Bool→Bool
 | [],_=>true
 | i :: c,listed =>
  (if ef (ops.getD i default) then Region.ready .any ops listed == [i] else (Region.ready .any ops listed).contains i && QC ops rd wr listed i) && okp ops ef rd wr c (listed.setIfInBounds i true)
def GV:List Nat→Array Bool→Array Bool
 | [],l=>l
 | i :: c,l=>GV c (l.setIfInBounds i true)
def Tr.seq:Tr→Bool
 | .leaf _=>true
 | .node _ _=>true
 | _=>false
def okT (ops:Array Oper) (ef rd wr:Oper→Bool):Tr→Nat→List Nat→Array Bool→Bool
 | .leaf c,f,_,listed=>Nat.beq c.length f && okc ops ef rd wr c listed
 | .node c b,f,_,listed=>Nat.blt c.length f && okp ops ef rd wr c listed && !b.seq && !(Region.ready .any ops (GV c listed)).isEmpty && okT ops ef rd wr b (f - c.length) (Region.ready .any ops (GV c listed)) (GV c listed)
 | .alt _ _ _,_,[],_=>false
 | .alt i t r,f,i' :: rem,listed=>Nat.blt 0 f && Nat.beq i i' && Nat.blt i ops.size && t.seq && !r.seq && okT ops ef rd wr t (f - 1) [] (listed.setIfInBounds i true) && okT ops ef rd wr r f rem listed
 | .stop,_,rem,_=>rem.isEmpty
variable {S : List Nat} {ef rd wr : Oper → Bool}
def GAT (P:Program) (S:List Nat) (ops:Array Oper) (ef rd wr:Oper→Bool) (K:Act→World→Prop):Tr→Act→World→Prop
 | .leaf c,a,w=>GA P S ops ef rd wr K (c.map fun i=>ops.getD i default) a w
 | .node c b,a,w=>GA P S ops ef rd wr (fun a w=>GAT P S ops ef rd wr K b a w) (c.map fun i=>ops.getD i default) a w
 | .alt i t r,a,w=>GA P S ops ef rd wr (fun a w=>GAT P S ops ef rd wr K t a w) [ops.getD i default] a w∧GAT P S ops ef rd wr K r a w
 | .stop,_,_=>True
theorem Jr {K K':Act→World→Prop} (hK:∀a w,K a w→K' a w):∀(l:List Oper) (a:Act) (w:World),GA P S ops ef rd wr K l a w→GA P S ops ef rd wr K' l a w
 | [],a,w,h=>hK a w h
 | o :: l,a,w,h=>by
  simp only [GA] at h ⊢
  rcases h with ⟨v,hy,h⟩|⟨he,hw,h⟩
  ·exact .inl ⟨v,hy,Jr hK l _ _ h⟩
  ·exact .inr ⟨he,hw,Gb (fun a w h=>Jr hK l a w h) h⟩
theorem Tk {K K1:Act→World→Prop} (hs:Region.noSelect ops=true) (g:Nat) :
  ∀(c:List Nat) (listed:Array Bool) (a:Act) (w:World),okp ops ef rd wr c listed=true→(∀a w,K1 a w→wpX P S ops wr K g (GV c listed) a w) →
   GA P S ops ef rd wr K1 (c.map fun i=>ops.getD i default) a w→wpX P S ops wr K (c.length+g) listed a w
 | [],listed,a,w,_,hK,h=>by simpa [GV] using hK a w h
 | i :: c,listed,a,w,hc,hK,h=>by
  have hf:(i :: c).length+g=(c.length+g)+1:=by simp;omega
  rw [hf]
  simp only [okp,Bool.and_eq_true] at hc
  obtain ⟨h0,hc⟩:=hc
  have hmem:i∈Region.ready .any ops listed:=by
   by_cases he:ef (ops.getD i default)=true
   ·simp only [he,if_true,beq_iff_eq] at h0;rw [h0];simp
   ·simp only [he] at h0;simp at h0;exact h0.1
  obtain ⟨_,o,ho,_⟩:=mem_ready.1 hmem
  have hget:ops.getD i default=o:=by
   have:=Array.getElem?_eq_some_iff.1 ho
   simp [Array.getD,this.1,this.2]
  simp only [List.map_cons] at h
  rw [hget] at h h0
  simp only [GA] at h
  have ih:=fun a w h=>Tk hs g c (listed.setIfInBounds i true) a w hc hK h
  have alone:ef o=true→∀K',opX P S ops wr i K' a w→(∀a w,K' a w→wpX P S ops wr K (c.length+g) (listed.setIfInBounds i true) a w)→wpX P S ops wr K ((c.length+g)+1) listed a w:=by
   intro he K' hop hK
   simp only [he,if_true,beq_iff_eq] at h0
   refine ⟨fun h=>(by rw [h] at hmem;cases hmem),fun j hj=>?_⟩
   rw [h0] at hj
   obtain rfl:j=i:=by simpa using hj
   exact Fh hK hop
  rcases h with ⟨v,hy,h⟩|⟨he,hw,h⟩
  ·by_cases he:ef o=true
   ·exact alone he (fun a w=>GA P S ops ef rd wr K1 (c.map fun i=>ops.getD i default) a w) (hy.opX ho h) ih
   ·simp only [he] at h0
    simp only [Bool.false_eq_true,if_false,Bool.and_eq_true] at h0
    exact Mr ho (Region.noSelect_spec hs) _ listed a w (JV ho h0.2) hmem hy (ih _ _ h)
  ·refine alone he _ ?_ ih
   unfold opX
   simp only [ho,hw,if_true]
   exact h
theorem Em {K:Act→World→Prop} (hs:Region.noSelect ops=true):∀(T:Tr) (f:Nat) (rem:List Nat) (listed:Array Bool) (a:Act) (w:World),okT ops ef rd wr T f rem listed=true→GAT P S ops ef rd wr K T a w →
  (T.seq=true→wpX P S ops wr K f listed a w)∧(T.seq=false→∀i∈rem,opX P S ops wr i (wpX P S ops wr K (f - 1) (listed.setIfInBounds i true)) a w)
 | .leaf c,f,rem,listed,a,w,hc,h=>by
  simp only [okT,Bool.and_eq_true] at hc
  have hl:c.length=f:=by simpa using hc.1
  subst hl
  exact ⟨fun _=>En hs c listed a w hc.2 h,fun h=>by simp [Tr.seq] at h⟩
 | .node c b,f,rem,listed,a,w,hc,h=>by
  simp only [okT,Bool.and_eq_true] at hc
  obtain ⟨⟨⟨⟨h1,h2⟩,h3⟩,h4⟩,h5⟩:=hc
  refine ⟨fun _=>?_,fun h=>by simp [Tr.seq] at h⟩
  have hlt:c.length<f:=by simpa using h1
  obtain ⟨g,rfl⟩:∃g,f=c.length+(g+1):=⟨f - c.length - 1,by omega⟩
  have e:c.length+(g+1) - c.length=g+1:=by omega
  rw [e] at h5
  refine Tk hs (g+1) c listed a w h2 (fun a w hb=>?_) h
  have hbs:b.seq=false:=by simpa using h3
  have:=(Em hs b (g+1) _ _ a w h5 hb).2 hbs
  refine ⟨fun h0=>?_,fun i hi=>this i hi⟩
  rw [h0] at h4
  simp at h4
 | .alt i t r,f,[],listed,a,w,hc,h=>by simp [okT] at hc
 | .alt i t r,f,i' :: rem,listed,a,w,hc,h=>by
  simp only [okT,Bool.and_eq_true] at hc
  obtain ⟨⟨⟨⟨⟨⟨h1,h2⟩,h3⟩,h4⟩,h5⟩,h6⟩,h7⟩:=hc
  have hii:i=i':=by simpa using h2
  subst hii
  refine ⟨fun h=>by simp [Tr.seq] at h,fun _ m hm=>?_⟩
  obtain ⟨ha,hb⟩:=h
  rcases List.mem_cons.1 hm with rfl|hm
  ·have hlt:m<ops.size:=by simpa using h3
   have ho:ops[m]?=some (ops.getD m default):=by simp [hlt]
   have ih:=fun a w h=>(Em (K:=K) hs t (f - 1) [] (listed.setIfInBounds m true) a w h6 h).1 h4
   simp only [GA] at ha
   rcases ha with ⟨v,hy,h⟩|⟨he,hw,h⟩
   ·exact hy.opX ho (ih _ _ h)
   ·unfold opX
    simp only [ho,hw,if_true]
    exact Gb (fun a w h=>ih a w h) h
  ·exact (Em hs r f rem listed a w h7 hb).2 (by simpa using h5) m hm
 | .stop,f,rem,listed,a,w,hc,h=>by
  refine ⟨fun h=>by simp [Tr.seq] at h,fun _ m hm=>?_⟩
  simp [okT] at hc
  subst hc
  cases hm
variable {n : Nat}
def GT (P:Program) (n:Nat) (ops:Array Oper) (dr:Nat × List Nat):Tr→Env→World→(Env→World→Prop)→Prop
 | .leaf c,E,w,K=>G P n ops dr (c.map fun i=>ops.getD i default) E w K
 | .node c b,E,w,K=>G P n ops dr (c.map fun i=>ops.getD i default) E w (fun E w=>GT P n ops dr b E w K)
 | .alt i t r,E,w,K=>G P n ops dr [ops.getD i default] E w (fun E w=>GT P n ops dr t E w K)∧GT P n ops dr r E w K
 | .stop,_,_,_=>True
theorem Zj {c:List Nat} (h:G P n ops dr (c.map fun i=>ops.getD i default) E w K):GT P n ops dr (.leaf c) E w K:=h
theorem BH {c:List Nat} (h:G P n ops dr (c.map fun i=>ops.getD i default) E w K):GT P n ops dr (.leaf c) E w K:=Zj h
theorem Zp {c:List Nat} {b:Tr} (h:G P n ops dr (c.map fun i=>ops.getD i default) E w (fun E w=>GT P n ops dr b E w K)):GT P n ops dr (.node c b) E w K:=h
theorem BN {c:List Nat} {b:Tr} (h:G P n ops dr (c.map fun i=>ops.getD i default) E w (fun E w=>GT P n ops dr b E w K)):GT P n ops dr (.node c b) E w K:=Zp h
theorem Zv {i:Nat} {t r:Tr} (h1:G P n ops dr [ops.getD i default] E w (fun E w=>GT P n ops dr t E w K)) (h2:GT P n ops dr r E w K):GT P n ops dr (.alt i t r) E w K:=⟨h1,h2⟩
theorem Zq:GT P n ops dr .stop E w K:=trivial
theorem Zay:∀(T:Tr) (E:Env) (w:World),GT P n ops dr T E w K→∀a,Holds n E a→GAT P dr.2 ops (Am P dr.1) (Bi P) (writes dr.1) (fun a' w'=>∃E',Holds n E' a'∧K E' w') T a w
 | .leaf c,E,w,h,a,ha=>by
  simp only [GT] at h
  unfold G at h
  exact h a ha
 | .node c b,E,w,h,a,ha=>by
  simp only [GT] at h
  unfold G at h
  exact Jr (fun a w ⟨E',h1,h2⟩=>Zay b E' w h2 a h1) _ _ _ (h a ha)
 | .alt i t r,E,w,h,a,ha=>by
  obtain ⟨h1,h2⟩:=h
  unfold G at h1
  exact ⟨Jr (fun a w ⟨E',h1,h2⟩=>Zay t E' w h2 a h1) _ _ _ (h1 a ha),Zay r E w h2 a ha⟩
 | .stop,E,w,h,a,ha=>trivial
theorem Zl {id:Nat} {l:List Oper} (k:Nat) (S:List Nat) (T:Tr) (hm:P.follows .mixedOrders=true)
  (hc:(Region.noSelect l.toArray && okT l.toArray (Am P k) (Bi P) (writes k) T l.length [] (Array.replicate l.length false) && T.seq)=true)
  (h:GT P n l.toArray (k,S) T E w.drew (Post n Q .normal)):W P n (.region id l.toArray true) Q E w:=by
 unfold W
 intro a ha
 simp only [Bool.and_eq_true] at hc
 refine wp_region_any hm (EM (S:=S) (wr:=writes k) (K:=fun a' w'=>∃E',Holds n E' a'∧Post n Q .normal E' w') (fun a _ ⟨_,hE,hp⟩=>by unfold Post at hp;exact hp a hE) _ _ _ _ ?_)
 have:=(Em (P:=P) (S:=S) hc.1.1 T l.length [] (Array.replicate l.length false) a { w with drawn:=w.drawn+1 } hc.1.2 (Zay T E w.drew h a ha)).1 hc.2
 simpa using this
attribute [irreducible] GT
variable {l : List Oper}
variable {ty : TypeId} {t' u : Nat}
theorem Q98 {dc:Nat} {sc:Nat} (hu:Ab P t u sz by_) (hx:E.look x=some (.slice none 0 dc)) (hy:E.look y=some (.slice none 0 sc)) (he:Am P dr.1 ⟨d,.call ⟨.builtin .copy,#[x,y],#[t,t']⟩,ty,pos,af,g⟩=true) (hw:writes dr.1 ⟨d,.call ⟨.builtin .copy,#[x,y],#[t,t']⟩,ty,pos,af,g⟩=true) (hd:Ah n d=true) (h:G P n ops dr l (E.put d (.int .i64 0)) w K):G1 P n ops dr ⟨d,.call ⟨.builtin .copy,#[x,y],#[t,t']⟩,ty,pos,af,g⟩ l E w K:=by
 obtain ⟨hu1,inf,z,hi,rfl,rfl,hz,hz2⟩:=hu
 have hmin:Nat.min 0 0=0:=rfl
 exact Zs (.int .i64 0) w he hd (fun a ha=>by simp [execOp,resolve,invoke,builtin,ha.eval hx,ha.eval hy,Builtin.copy_,run_underlying hu1,Builtin.lenOf,Builtin.firstCells,sizeOf,typeInfo,hi,goInt];try rfl) (.inl hw) h
end Go.V
namespace Go.Proofs.YtkcolpfanmdmiaaGreatDoor
open Go.V
attribute [local irreducible] Blk Own hcell Ao Ab PlainT Ak Ad Ap Aa Ag EqT Au
theorem UW {w0:World} {ar B c a:Nat} {inp:List UInt8} {pw:Option Addr} {cw:Nat} {r:RS} {w:World} (hR:Ba w0 w ar B none c inp a pw cw r 0) :
  Ctr Tryz.prog 86 [.pointer (some (adr (bx ar) 0))] w (fun _ w'=>FrS (fun q=>q=ar∨bx q=(none:Option Addr)) w w'∧Ba w0 w' ar B none c (inp.drop a) 0 pw cw r 0):=by
 have hok:=hR.row.sl.ok
 have hc0:=hok.nul rfl
 have hle:=hok.le
 have hla:=hR.la
 have hi0:inp=[]:=List.eq_nil_of_length_eq_zero (by omega)
 subst hi0
 have ha0:a=0:=by simpa using hla
 subst ha0 hc0
 have hbk:=hR.blk
 simp only [List.length_nil] at hbk
 refine Ac Tryz.func86 Tryz.ntmps86 rfl rfl rfl ?_
 repeat' (first|refine R1 ?_|(refine Q1 ?_;first|(refine Q2 (hu:=T.f192_6) ?_)|(refine Q3 (hu:=T.p58) ?_))|refine R2 ?_|fail)
 all_goals try (exfalso;omega)
 refine Zl 1 [] (.node [0,1,2,4,5,6,8,9,10,3] (.alt 7 (.node [] (.alt 11 (.leaf [12,13,14]) .stop)) (.alt 11 (.node [] (.alt 7 (.leaf [12,13,14]) .stop)) .stop))) mixed (by decide +kernel) ?_
 repeat' (first|refine R1 ?_|(refine Q1 ?_;first|(refine Q18 T.s40 hok (q:=0) (hq:=Nat.le_refl _) ?_)|refine Q98 T.s40 rfl rfl rfl rfl rfl ?_|(refine Q23 T.s40 (q:=0) (hj:=rfl) (hq:=Nat.zero_le _) ?_)|(refine Q2 (hu:=by (first|exact T.f192_0|exact T.f192_1)) ?_)|(refine Q3 (hu:=by (first|exact T.p40|exact T.p3)) ?_))|(refine Zj ?_)|(refine Zp ?_)|(apply Zv)|refine R2 ?_|(exact Zq)|fail)
 all_goals
  refine Q1 ?_;refine Q5 T.z40 hbk ?_;intro w2 hA2 hg2 hs2
  repeat' (refine Q1 ?_;first|refine Q21 ?_|(refine Q2 (hu:=T.f192_1) ?_))
  refine Q1 ?_;refine Q5 T.z3 hA2 ?_;intro w3 hA3 hg3 hs3
  replace hA3:Blk w3.heap ar 192 [.slice none 0 0,.int .i64 ((0:Nat):Int),.int .i64 (r.left:Int),.int .i64 r.size,.slice pw r.words.length cw,.int .i64 (r.held:Int),.int .i64 0]:=hA3
  have hg:=BP hg2 hg3
  have h3:=(hR.xt (show Ext w _ from Ext.drew Ext.rfl')).set hg hA3 rfl (Nat.le_refl _)
  repeat' apply Zu
  refine Zk Tryz.results86 (vs:=[]) rfl ?_
  exact ⟨(FrS.of_ext (F:=fun q=>q=ar∨bx q=(none:Option Addr)) (show Ext w _ from Ext.drew Ext.rfl')).trans (FrS.of_grown hg (fun k hk=>by injection hk with hk;exact .inl hk.symm)) (fun _ _ h=>h),h3⟩
theorem GY:∀l:List UInt8,l.flatMap Ai.enc=l.map (fun x=>Value.int .u8 x.toNat)
 | []=>rfl
 | x :: l=>by rw [List.flatMap_cons,GY l];rfl
theorem UX {w0:World} {ar B:Nat} {p:Option Addr} {c a:Nat} {inp:List UInt8} {pw:Option Addr} {cw:Nat} {r:RS} {w:World} (hR:Ba w0 w ar B p c inp a pw cw r 0) (hp:p≠none) (hap:∀x y,pw=some x→p=some y→x.block≠y.block) (_:inp.length≤1000000000) :
  Ctr Tryz.prog 86 [.pointer (some (adr (bx ar) 0))] w (fun _ w'=>FrS (fun q=>q=ar∨bx q=p) w w'∧Ba w0 w' ar B p c (inp.drop a) 0 pw cw r 0):=by
 have hC:=hR.row.sl
 have hok:=hC.ok
 have hle:=hok.le
 have hla:=hR.la
 have hbk:=hR.blk
 have hlt:=hR.lt
 have hD:Sl w.heap Ai (AP p c a 1) (c - a) (inp.drop a):=hC.drop (by omega)
 obtain ⟨gb,cur,rfl,hgB,hV,hcl,hcm,hnc,htk⟩:=hR.row.toBlk hp
 have hdl:((inp.drop a).flatMap Ai.enc).length=inp.length - a:=by rw [GY,List.length_map,List.length_drop]
 have hac:(inp.drop a).flatMap Ai.enc≠[]→a<c:=fun hne=>Nat.lt_of_not_le (fun hge=>hne (by rw [List.drop_of_length_le (by omega)];rfl))
 have hcl1:cur.length=c:=by rw [hcl];exact Nat.mul_one c
 refine Ac Tryz.func86 Tryz.ntmps86 rfl rfl rfl ?_
 repeat' (first|refine R1 ?_|(refine Q1 ?_;first|(refine Q2 (hu:=T.f192_6) ?_)|(refine Q3 (hu:=T.p58) ?_))|refine R2 ?_|fail)
 all_goals try (exfalso;omega)
 refine Zl 1 [] (.node [0,1,2,4,5,6,8,9,10,3] (.alt 7 (.node [] (.alt 11 (.leaf [12,13,14]) .stop)) (.alt 11 (.node [] (.alt 7 (.leaf [12,13,14]) .stop)) .stop))) mixed (by decide +kernel) ?_
 repeat' (first|refine R1 ?_|(refine Q1 ?_;first|(refine Q18 T.s40 hok (q:=a) ?_)|(refine Q2 (hu:=by (first|exact T.f192_0|exact T.f192_1)) ?_)|(refine Q3 (hu:=by (first|exact T.p40|exact T.p3)) ?_))|(refine Zj ?_)|(refine Zp ?_)|(apply Zv)|refine R2 ?_|(exact Zq)|fail)
 all_goals
  refine Q1 ?_
  apply Zz (gb:=gb) (o:=0) (T:=5) (cur:=cur) ((inp.drop a).flatMap Ai.enc);exact T.s40;exact rfl;exact rfl
  ·exact rfl
  ·exact hV.ext (Ext.drew Ext.rfl')
  ·exact fun hne=>⟨gb,a * 1,Bc (hac hne)⟩
  ·rw [hdl,Nat.min_eq_left (by omega),Nat.mul_one]
  ·intro j v hj
   rw [GY,List.getElem?_map] at hj
   rcases hx:(inp.drop a)[j]? with _|x
   ·rw [hx] at hj;cases hj
   ·rw [hx] at hj
    have:=(hD.ext (show Ext w w.drew from Ext.drew Ext.rfl')).cell j x hx 0 v hj
    simpa [Ai] using this
  ·rw [hdl,hcl1];omega
  ·exact Cg _ _
  ·decide
  ·exact rfl
  ·exact rfl
  ·exact rfl
  intro w2 hV2 hg2 hz2
  have hx1:Ext w w.drew:=Ext.drew Ext.rfl'
  have hbk2:=(hbk.ext hx1).grown hg2 (by intro e;injection e with e;omega)
  rw [Nat.min_eq_left (show inp.length - a≤inp.length by omega)]
  repeat' (first|refine R1 ?_|(refine Q1 ?_;first|(refine Q23 T.s40 (q:=inp.length - a) (hj:=rfl) ?_)|(refine Q2 (hu:=T.f192_0) ?_)|(refine Q3 (hu:=T.p40) ?_))|refine R2 ?_|fail)
  refine Q1 ?_;refine Q5 T.z40 hbk2 ?_;intro w3 hA3 hg3 hs3
  repeat' (refine Q1 ?_;first|refine Q21 ?_|(refine Q2 (hu:=T.f192_1) ?_))
  refine Q1 ?_;refine Q5 T.z3 hA3 ?_;intro w4 hA4 hg4 hs4
  rw [← List.length_drop] at hA4
  replace hA4:Blk w4.heap ar 192 [.slice (bx gb) (inp.drop a).length c,.int .i64 ((0:Nat):Int),.int .i64 (r.left:Int),.int .i64 r.size,.slice pw r.words.length cw,.int .i64 (r.held:Int),.int .i64 0]:=hA4
  have hg:=BP hg3 hg4
  have hO2:Go.V.Own w2 B 5 Ai (bx gb) c (inp.drop a):=Own.ofBlk hgB hV2 (by show _=c * 1;simp only [List.length_append,List.length_take,List.length_drop,hdl];omega) hcm (by rw [List.length_drop];omega) (by
   rw [List.take_zero,List.nil_append]
   exact List.take_left' (by rw [hdl,List.length_drop];exact (Nat.mul_one _).symm))
  have hW2:=(hR.wds.ext hx1).kept hg2 (fun x hx e=>by injection e with e;exact hap x _ hx rfl e.symm)
  have hE2:Ext w0 w2:=(hR.ext.trans hx1).own hg2 (fun k hk=>by injection hk with hk;have:=hR.h0;omega)
  repeat' apply Zu
  refine Zk Tryz.results86 (vs:=[]) rfl ?_
  have hne:∀x:Addr,some ar=some x.block→B≤x.block→False:=fun x e h2=>by injection e with e;omega
  have h3:Ba w0 w4 ar B (bx gb) c (inp.drop a) 0 pw cw r 0 :=
   ⟨hA4,hO2.kept hg (fun x hx e=>hne x e (hO2.ge x.block (by rw [hx];rfl)).1),hW2.kept hg (fun x hx e=>hne x e (hW2.ge x.block (by rw [hx];rfl)).1),hE2.own hg (fun k hk=>by injection hk with hk;have:=hR.h0;omega),hR.h0,hR.lt,Nat.le_trans hR.hB (Nat.le_trans hx1.size (Nat.le_trans hg2.size hg.size)),Nat.zero_le _⟩
  exact ⟨((FrS.of_ext (F:=fun q=>q=ar∨bx q=bx gb) hx1).trans (FrS.of_grown (F:=fun q=>q=ar∨bx q=bx gb) hg2 (fun k hk=>by injection hk with hk;exact .inr (by rw [hk]))) (fun _ _ h=>h)).trans (FrS.of_grown (F:=fun q=>q=ar∨bx q=bx gb) hg (fun k hk=>by injection hk with hk;exact .inl hk.symm)) (fun _ _ h=>h),h3⟩
def QQ (ft:Int):Value:=.agg #[.slice none 0 0,.int .i64 0,.int .i64 0,.int .i64 0,.slice none 0 0,.int .i64 0,.int .i64 ft]
def Xb:Value:=.agg #[.slice none 0 0,.int .i64 0,.int .i64 0,.int .i64 (-1),.slice none 0 0,.int .i64 0,.int .i64 0]
theorem Xo (ft:Int) (w:World):(Instr.build 192 [(6,Value.int .i64 ft)].toArray).run Tryz.prog w=.ok (QQ ft) w:=by kernel_rfl
theorem Xp (w:World):(Instr.build 192 [(3,Value.int .i64 (-1))].toArray).run Tryz.prog w=.ok Xb w:=by kernel_rfl
theorem Wn (ft:Int):∀v,v∈(QQ ft).cells.toList→v.oneCell'=true:=by
 have e:(QQ ft).cells.toList=[.slice none 0 0,.int .i64 0,.int .i64 0,.int .i64 0,.slice none 0 0,.int .i64 0,.int .i64 ft]:=rfl
 rw [e]
 simp [Value.oneCell']
theorem GL {w0:World} {ar B:Nat} {p:Option Addr} {c a:Nat} {inp:List UInt8} {pw:Option Addr} {cw:Nat} {r:RS} {ft:Int} {w:World} (hR:Ba w0 w ar B p c inp a pw cw r ft) (hft:ft≠0) :
  Ctr Tryz.prog 86 [.pointer (some (adr (bx ar) 0))] w (fun _ w'=>FrS (fun q=>q=ar) w w'∧Ba w0 w' ar B none 0 [] 0 none 0 { left:=0,size:=0,words:=[],held:=0 } ft):=by
 have hbk:=hR.blk
 refine Ac Tryz.func86 Tryz.ntmps86 rfl rfl rfl ?_
 repeat' (first|refine R1 ?_|(refine Q1 ?_;first|(refine Q20 (QQ ft) (Xo _) ?_)|(refine Q2 (hu:=T.f192_6) ?_)|(refine Q3 (hu:=T.p58) ?_))|refine R2 ?_|(apply Za;exact rfl;all_goals (intro h;try (exfalso;omega)))|fail)
 all_goals try (exfalso;omega)
 refine Q1 ?_;refine Q5 T.z192 hbk (hm:=Nat.le_of_ble_eq_true rfl) (h1:=Wn ft) (hw:=.inl rfl) ?_;intro w3 hA3 hg3 hs3
 replace hA3:Blk w3.heap ar 192 [.slice none 0 0,.int .i64 ((0:Nat):Int),.int .i64 ((0:Nat):Int),.int .i64 0,.slice none 0 0,.int .i64 ((0:Nat):Int),.int .i64 ft]:=hA3
 have hx1:Ext w w:=Ext.rfl'
 repeat' (first|refine R1 ?_|refine R2 ?_|fail)
 refine Ze Tryz.results86 (vs:=[]) rfl ?_
 exact ⟨FrS.of_grown hg3 (fun k hk=>by injection hk with hk;exact hk.symm),⟨hA3,Own.nil _ _ _ _,Own.nil _ _ _ _,hR.ext.own hg3 (fun k hk=>by injection hk with hk;have:=hR.h0;omega),hR.h0,hR.lt,Nat.le_trans hR.hB hg3.size,Nat.le_refl _⟩⟩
theorem NY {w:World}:Ctr Tryz.prog 55 [] w (fun v w'=>Ext w w'∧∃ar,v=.pointer (some (adr (bx ar) 0))∧Ba w w' ar (ar+1) none 0 [] 0 none 0 rs0 0):=by
 refine Ac Tryz.func55 Tryz.ntmps55 rfl rfl rfl ?_
 repeat' (first|refine R1 ?_|(refine Q1 ?_;refine Q20 Xb Xp ?_)|fail)
 refine Q1 ?_;refine Q8 ?_;intro a1 w1 ha1 hA1 hx1 hs1
 replace hA1:Blk w1.heap a1 192 [.slice none 0 0,.int .i64 ((0:Nat):Int),.int .i64 ((0:Nat):Int),.int .i64 (-1),.slice none 0 0,.int .i64 ((0:Nat):Int),.int .i64 0]:=hA1
 repeat' (first|refine R1 ?_|refine R2 ?_|fail)
 refine Kr Tryz.results55 ?_
 exact ⟨hx1,a1,rfl,⟨hA1,Own.nil _ _ _ _,Own.nil _ _ _ _,hx1,by omega,by omega,by omega,Nat.le_refl _⟩⟩
end Go.Proofs.YtkcolpfanmdmiaaGreatDoor
namespace Go.V
theorem BB {H:Array Obj} {b b':Nat} {t t':TypeId} {cs cs':List Value} (h:Blk H b t cs) (h':Blk H b' t' cs') (ht:t≠t'):b≠b':=by
 rintro rfl
 unfold Blk at h h'
 rw [h] at h'
 injection h' with e
 injection e
 contradiction
theorem Own.ty {α:Type} {e:Enc α} {w:World} {B T:Nat} {p:Option Addr} {c:Nat} {xs:List α} (h:Own w B T e p c xs) {x:Addr} (hx:p=some x):∃cur,Blk w.heap x.block T cur:=by
 obtain ⟨gb,cur,e1,_,hV,_⟩:=h.toBlk (by rw [hx];exact fun h=>by cases h)
 rw [hx] at e1
 injection e1 with e1
 exact ⟨cur,by rw [e1];exact hV⟩
theorem Own.apart {α:Type} {e:Enc α} {w:World} {B T:Nat} {p:Option Addr} {c:Nat} {xs:List α} (h:Own w B T e p c xs) {x:Addr} (hx:p=some x) {b t:Nat} {cs:List Value} (hb:Blk w.heap b t cs) (ht:T≠t):b≠x.block:=by
 obtain ⟨cur,hV⟩:=h.ty hx
 exact fun e=>BB hV hb ht e.symm
theorem Own.apart2 {α β:Type} {e:Enc α} {f:Enc β} {w:World} {B T B' T':Nat} {p q:Option Addr} {c d:Nat} {xs:List α} {ys:List β} (h:Own w B T e p c xs) (k:Own w B' T' f q d ys) (ht:T≠T') {x y:Addr} (hx:p=some x) (hy:q=some y):x.block≠y.block:=by
 obtain ⟨cur,hV⟩:=h.ty hx
 exact k.apart hy hV (fun e=>ht e.symm)
end Go.V
namespace Go.Proofs.YtkcolpfanmdmiaaGreatDoor
open Go.V
attribute [local irreducible] Blk Own hcell Ao Ab PlainT Ak Ad Ap Aa Ag EqT Au
theorem Ba.turned {w0 w w':World} {ar B:Nat} {p:Option Addr} {c:Nat} {inp:List UInt8} {a:Nat} {pw:Option Addr} {cw:Nat} {r:RS} {ft:Int} {row:Option Nat} (h:Ba w0 w ar B p c inp a pw cw r ft) (hg:w.grownBy w' row)
  (h1:row≠some ar) (h2:∀x,p=some x→row≠some x.block) (h3:∀x,pw=some x→row≠some x.block) (h4:∀k,row=some k→w0.heap.size≤k):Ba w0 w' ar B p c inp a pw cw r ft :=
 ⟨h.blk.grown hg h1,h.row.kept hg h2,h.wds.kept hg h3,h.ext.own hg h4,h.h0,h.lt,Nat.le_trans h.hB hg.size,h.la⟩
theorem Ba.apart {w0 w:World} {ar B:Nat} {p:Option Addr} {c:Nat} {inp:List UInt8} {a:Nat} {pw:Option Addr} {cw:Nat} {r:RS} {ft:Int} (h:Ba w0 w ar B p c inp a pw cw r ft):∀x y,pw=some x→p=some y→x.block≠y.block :=
 fun _ _ hx hy=>h.wds.apart2 h.row (by decide) hx hy
theorem QV {w0:World} {ar B:Nat} {p:Option Addr} {c a:Nat} {inp:List UInt8} {pw:Option Addr} {cw:Nat} {r:RS} {w:World} (hR:Ba w0 w ar B p c inp a pw cw r 0) (hN:inp.length≤1000000000) :
  Ctr Tryz.prog 86 [.pointer (some (adr (bx ar) 0))] w (fun _ w'=>FrS (fun q=>q=ar∨bx q=p) w w'∧Ba w0 w' ar B p c (inp.drop a) 0 pw cw r 0):=by
 cases p with
 | none=>exact UW hR
 | some x=>exact UX hR (fun e=>by cases e) hR.apart hN
structure Mt (w:World) (ar B a2 a8:Nat) (pd:Option Addr) (cd:Nat) (hs:List Hdr):Prop where
 ptr:Blk w.heap a2 126 [.pointer (some (adr (bx ar) 0))]
 box:Blk w.heap a8 146 [.slice pd hs.length cd]
 row:Go.V.Own w B 61 Eu pd cd hs
theorem LD {w0:World} {ar B B' a2 a8:Nat} {p:Option Addr} {c a:Nat} {inp:List UInt8} {pw:Option Addr} {cw:Nat} {r:RS} {pd:Option Addr} {cd:Nat} {hs:List Hdr} {q:Option Addr} {m d:Nat} {w:World} (hR:Ba w0 w ar B p c inp a pw cw r 0) (hG:Mt w ar B' a2 a8 pd cd hs)
  (h8:w0.heap.size≤a8) (hB:w0.heap.size≤B') (hB':B'≤w.heap.size) (hl:hs.length≤1000000000) :
  Ctr Tryz.prog 80 [.slice q m d,.pointer (some (adr (bx a8) 0)),.pointer (some (adr (bx a2) 0))] w (fun _ w'=>∃pd' cd',Ba w0 w' ar B p c inp a none 0 { r with words:=[],held:=0 } 0∧Mt w' ar B' a2 a8 pd' cd' (hs++[(q,m,d)])∧FrS (fun k=>k=ar∨k=a8∨bx k=pd) w w'∧∀k,blk pd'=some k→blk pd=some k∨w.heap.size≤k):=by
 have hA2:=hG.ptr
 have hA8:=hG.box
 have hO:=hG.row
 have hzB:=hR.hB
 refine Ac Tryz.func80 Tryz.ntmps80 rfl rfl rfl ?_
 repeat' (first|refine R1 ?_|(refine Q1 ?_;(refine Q3 (hu:=T.p146) ?_))|fail)
 refine Q1 ?_
 refine Q12 Eu (q,m,d) T.s146 ?_
 intro p4 w4 hp4 hs4 _ hx4 hz4
 replace hO:=hO.ext hx4
 replace hA2:=hA2.ext hx4
 replace hA8:=hA8.ext hx4
 have hR4:=hR.xt hx4
 have hge:=hO.ge
 repeat' (refine Q1 ?_;(refine Q16 T.s146 hO hs4 ?_;intro p5 c5 w5 ha5))
 have hrow:∀k,blk pd=some k→∃x,pd=some x∧x.block=k:=fun k hk=>by
  cases hpd:pd with
  | none=>rw [hpd] at hk;cases hk
  | some x=>rw [hpd] at hk;injection hk with hk;exact ⟨x,rfl,hk⟩
 have hR5:=hR4.turned ha5.grown (fun e=>by obtain ⟨x,hx,hk⟩:=hrow _ e;exact hO.apart hx hR4.blk (by decide) hk.symm) (fun y hy e=>by obtain ⟨x,hx,hk⟩:=hrow _ e;exact hO.apart2 hR4.row (by decide) hx hy hk) (fun y hy e=>by obtain ⟨x,hx,hk⟩:=hrow _ e;exact hO.apart2 hR4.wds (by decide) hx hy hk) (fun k e=>by have:=hge k e;omega)
 have hA25:=hA2.grown ha5.grown (fun e=>by obtain ⟨x,hx,hk⟩:=hrow _ e;exact hO.apart hx hA2 (by decide) hk.symm)
 have hA85:=hA8.grown ha5.grown (fun e=>by obtain ⟨x,hx,hk⟩:=hrow _ e;exact hO.apart hx hA8 (by decide) hk.symm)
 refine Q1 ?_;refine Q5 T.z146 hA85 ?_;intro w6 hA86 hg6 hs6
 replace hA86:Blk w6.heap a8 146 [.slice p5 (hs++[(q,m,d)]).length c5]:=hA86
 have hR6:=hR5.turned hg6 (fun e=>by injection e with e;exact BB hA85 hR5.blk (by decide) e) (fun y hy e=>by injection e with e;exact hR5.row.apart hy hA85 (by decide) e) (fun y hy e=>by injection e with e;exact hR5.wds.apart hy hA85 (by decide) e) (fun k e=>by injection e with e;omega)
 have hA26:=hA25.grown hg6 (fun e=>by injection e with e;exact BB hA85 hA25 (by decide) e)
 have hO6:=ha5.own.kept hg6 (fun x hx e=>by injection e with e;exact ha5.own.apart hx hA85 (by decide) e)
 have hbk:=hR6.blk
 repeat' (refine R1 ?_)
 have nA2:=BB hA26 hbk (by decide)
 refine Zf 3 [ar] [0,1,2,3,4,5,6,7] mixed (by decide +kernel) ?_
 repeat' (refine Q1 ?_;first|refine Q21 ?_|(refine Q31 (hu:=T.p126) ?_)|(refine Q2 (hu:=T.f192_4) ?_))
 refine Q1 ?_;refine Q5 T.z61 hbk ?_;intro w7 hA7 hg7 hs7
 repeat' (refine Q1 ?_;first|refine Q21 ?_|(refine Q2 (hu:=T.f192_5) ?_))
 refine Q1 ?_;refine Q5 T.z3 hA7 ?_;intro w8 hA8' hg8 hs8
 replace hA8':Blk w8.heap ar 192 [.slice p inp.length c,.int .i64 (a:Int),.int .i64 (r.left:Int),.int .i64 r.size,.slice none 0 0,.int .i64 ((0:Nat):Int),.int .i64 0]:=hA8'
 have hg:=BP hg7 hg8
 have hx6:Ext w6 w6.drew:=Ext.drew Ext.rfl'
 have hR7:=hR6.xt hx6
 have hq:∀x:Addr,some ar=some x.block→B≤x.block→False:=fun x e h2=>by injection e with e;have:=hR.lt;omega
 have hne:∀x,p=some x→some ar≠some x.block:=fun x hx e=>hq x e (hR7.row.ge x.block (by rw [hx];rfl)).1
 have hR8:Ba w0 w8 ar B p c inp a none 0 { r with words:=[],held:=0 } 0 :=
  ⟨hA8',hR7.row.kept hg hne,Own.nil _ _ _ _,hR7.ext.own hg (fun k hk=>by injection hk with hk;have:=hR.h0;omega),hR.h0,hR.lt,Nat.le_trans hR7.hB hg.size,hR.la⟩
 have hO8:=(hO6.ext hx6).kept hg (fun x hx e=>by injection e with e;exact (hO6.ext hx6).apart hx hR7.blk (by decide) e)
 repeat' apply Zu
 refine Zk Tryz.results80 (vs:=[]) rfl ?_
 refine ⟨p5,c5,hR8,⟨(hA26.ext hx6).grown hg (fun e=>by injection e with e;exact nA2 e.symm),(hA86.ext hx6).grown hg (fun e=>by injection e with e;exact BB hR7.blk (hA86.ext hx6) (by decide) e),hO8⟩,?_⟩
 have f1:FrS (fun k=>k=ar∨k=a8∨bx k=pd) w w4:=FrS.of_ext hx4
 have f2:FrS (fun k=>k=ar∨k=a8∨bx k=pd) w4 w5:=FrS.of_grown ha5.grown (fun k hk=>by
  obtain ⟨x,hx,e⟩:=hrow _ hk
  obtain ⟨gb,cur,e1,_⟩:=hO.toBlk (by rw [hx];exact fun h=>by cases h)
  rw [hx] at e1
  injection e1 with e1
  refine .inr (.inr ?_)
  rw [hx,e1,← e,e1])
 have f3:FrS (fun k=>k=ar∨k=a8∨bx k=pd) w5 w6:=FrS.of_grown hg6 (fun k hk=>by injection hk with hk;exact .inr (.inl hk.symm))
 have f4:FrS (fun k=>k=ar∨k=a8∨bx k=pd) w6.drew w8:=FrS.of_grown hg (fun k hk=>by injection hk with hk;exact .inl hk.symm)
 have hnp:=ha5.new
 unfold BK at hnp
 have hz4':=hx4.size
 exact ⟨(((f1.trans f2 (fun _ _ h=>h)).trans f3 (fun _ _ h=>h)).trans (FrS.of_ext hx6) (fun _ _ h=>h)).trans f4 (fun _ _ h=>h),fun k hk=>hnp.elim (fun h=>.inl (by rw [← h];exact hk)) (fun h=>.inr (by have:=h k hk;omega))⟩
end Go.Proofs.YtkcolpfanmdmiaaGreatDoor
namespace Go.V
variable {n : Nat}
theorem ZF {c:Code} (h:W P n c (Exit.noGoto Q) E w):W P n (.scope c) Q E w:=by
 unfold W at *
 exact fun a ha=>wp_scope_straight (h a ha)
theorem ZK {id:Nat} (h:Post n Q .normal E w):W P n (.label id) Q E w:=by
 unfold W;unfold Post at h
 exact fun a ha=>wp_label (h a ha)
theorem Zbn (h:Post n Q .normal E w):Post n (Exit.noGoto Q) .normal E w:=by unfold Post at *;exact h
theorem Zo (h:Post n Q .ret E w):Post n (Exit.noGoto Q) .ret E w:=by unfold Post at *;exact h
theorem Zbm {id:Nat} (h:Post n Q (.exit id) E w):Post n (Exit.noGoto Q) (.exit id) E w:=by unfold Post at *;exact h
theorem Sl.fr {α:Type} {e:Enc α} {F:Nat→Prop} {w w':World} {p:Option Addr} {c:Nat} {xs:List α} (h:Sl w.heap e p c xs) (hf:FrS F w w') (hn:∀x,p=some x→¬F x.block):Sl w'.heap e p c xs:=by
 cases p with
 | none=>exact ⟨h.ok,fun i x hi k v hv=>by have:=h.ok.nul rfl;have:=h.ok.le;have:=(List.getElem?_eq_some_iff.1 hi).1;omega⟩
 | some y =>
  refine ⟨h.ok,fun i x hi k v hv=>?_⟩
  have h1:=h.cell i x hi k v hv
  have hb:(adr (some y) (i * e.sz+k)).block=y.block:=rfl
  rw [BI (hf.block _ (Dm h1) (by rw [hb];exact hn y rfl))]
  exact h1
end Go.V
namespace Go.Proofs.YtkcolpfanmdmiaaGreatDoor
open Go.V
attribute [local irreducible] Blk Own hcell Ao Ab PlainT Ak Ad Ap Aa Ag EqT Au
structure Ng (r:RS):Prop where
 size:-1≤r.size∧r.size≤4096
 words:r.left+r.words.length≤128
 zero:r.left=0→r=rs0
theorem LF:Ng rs0:=⟨⟨by simp [rs0],by simp [rs0]⟩,by simp [rs0],fun _=>rfl⟩
theorem Mg {r r':RS} {cs:List UInt8} {k:Nat} {out:List (List ByteArray)} (hr:Ng r) (h:Bf r cs=.go r' k out):Ng r'∧r'.held≤r.held+k∧out.length≤1:=by
 unfold Bf at h
 split at h
 ·rename_i h0
  split at h
  ·cases h
  ·cases h
  ·rename_i s k' hl
   have h1:=DT hl
   split at h
   ·split at h
    ·cases h
    ·rename_i n hn
     have:=Kt hn
     cases h
     exact ⟨⟨⟨by simp only;omega,by simp only;omega⟩,by simp only [List.length_nil];omega,fun e=>by simp only at e;omega⟩,by simp only;omega,Nat.zero_le _⟩
   ·split at h
    ·cases h
    ·cases h
     refine ⟨LF,by simp only [rs0];omega,?_⟩
     split
     ·exact Nat.zero_le _
     ·exact Nat.le_refl _
 rename_i h0
 have hw:=hr.words
 split at h
 ·split at h
  ·cases h
  ·cases h
  ·rename_i s k' hl
   have h1:=DT hl
   split at h
   ·cases h
   ·rename_i n hn
    have:=Kt hn
    cases h
    exact ⟨⟨⟨by simp only;omega,by simp only;omega⟩,hw,fun e=>absurd e h0⟩,Nat.le_refl _,Nat.zero_le _⟩
 split at h
 ·cases h
 split at h
 ·split at h
  ·cases h
   exact ⟨LF,by simp only [rs0];omega,Nat.le_refl _⟩
  ·rename_i h1
   cases h
   exact ⟨⟨⟨by simp only;omega,by simp only;omega⟩,by simp only [List.length_append,List.length_singleton];omega,fun e=>by simp only at e;omega⟩,Nat.le_refl _,Nat.zero_le _⟩
 ·cases h
theorem KA {r:RS} {cs:List UInt8} {k0:Nat}:match CE r cs k0 with
  | .more r' k=>r'=r∧k=k0
  | .err _=>True
  | .ok _ h k=>h+k0=r.held+k:=by
 unfold CE
 by_cases h1:cs.length<r.size.toNat+2
 ·rw [if_pos h1];exact ⟨rfl,rfl⟩
 ·rw [if_neg h1]
  by_cases h2:(cs.drop r.size.toNat).take 2=[13,10]
  ·rw [if_pos h2];simp only;omega
  ·rw [if_neg h2];trivial
theorem Tg {r:RS} {cs:List UInt8}:match FN r cs with
  | .more r' k=>r'.held=r.held+k
  | .err _=>True
  | .ok _ h k=>h=r.held+k:=by
 unfold FN
 by_cases hs:r.size<0
 ·rw [if_pos hs]
  cases Dn cs with
  | more=>rfl
  | err e=>trivial
  | ok s k =>
   simp only
   cases Dy s 36 0 4096 with
   | error e=>trivial
   | ok n =>
    simp only
    have key:=KA (r:={ r with size:=n,held:=r.held+k }) (cs:=cs.drop k) (k0:=k)
    cases hz:CE { r with size:=n,held:=r.held+k } (cs.drop k) k with
    | more r' k'=>rw [hz] at key;obtain ⟨rfl,rfl⟩:=key;rfl
    | err e=>trivial
    | ok s' h k'=>rw [hz] at key;simp only at key ⊢;omega
 ·rw [if_neg hs]
  have key:=KA (r:=r) (cs:=cs) (k0:=0)
  cases hz:CE r cs 0 with
  | more r' k'=>rw [hz] at key;obtain ⟨rfl,rfl⟩:=key;rfl
  | err e=>trivial
  | ok s' h k'=>rw [hz] at key;simp only at key ⊢;omega
theorem Vh {r:RS} {cs:List UInt8} {e:Int} (h:FN r cs=.err e):e=10∨e=12:=by
 have key:∀(r:RS) (cs:List UInt8) k,CE r cs k=.err e→e=10∨e=12:=fun r cs k h=>by
  unfold CE at h
  split at h
  ·cases h
  ·split at h
   ·cases h
   ·cases h;exact .inl rfl
 unfold FN at h
 split at h
 ·split at h
  ·cases h
  ·rename_i hl;cases h;exact NP hl
  ·split at h
   ·rename_i hn;cases h;exact QN hn
   ·exact key _ _ _ h
 ·exact key _ _ _ h
end Go.Proofs.YtkcolpfanmdmiaaGreatDoor
namespace Go.V
theorem Own.apartB {α:Type} {e:Enc α} {w:World} {B T:Nat} {p:Option Addr} {c:Nat} {xs:List α} (h:Own w B T e p c xs) {b t:Nat} {cs:List Value} (hb:Blk w.heap b t cs) (ht:T≠t):blk p≠some b:=by
 intro hk
 cases p with
 | none=>cases hk
 | some x=>injection hk with hk;exact h.apart rfl hb ht hk.symm
theorem Own.apartR {α β:Type} {e:Enc α} {f:Enc β} {w:World} {B T B' T':Nat} {p q:Option Addr} {c d:Nat} {xs:List α} {ys:List β} (h:Own w B T e p c xs) (k:Own w B' T' f q d ys) (ht:T≠T'):∀y,q=some y→blk p≠some y.block:=by
 intro y hy hk
 cases p with
 | none=>cases hk
 | some x=>injection hk with hk;exact h.apart2 k ht rfl hy hk
theorem Own.fr {α:Type} {e:Enc α} {F:Nat→Prop} {w w':World} {B T:Nat} {p:Option Addr} {c:Nat} {xs:List α} (h:Own w B T e p c xs) (hf:FrS F w w') (hn:∀k,blk p=some k→¬F k):Own w' B T e p c xs:=by
 obtain ⟨h1,h2⟩:=h
 refine ⟨h1,?_⟩
 rcases h2 with h2|⟨g,cap,cur,h3,h4,h5,h6⟩
 ·exact .inl h2
 ·refine .inr ⟨g,cap,cur,h3,h4,?_,h6⟩
  injection h3 with h3 _ _
  rw [hf.block g (Array.getElem?_eq_some_iff.1 h5).1 (hn g (by rw [h3];rfl))]
  exact h5
structure PartsAt (H:Array Obj) (F:Nat→Prop) (hs:List Hdr) (bss:List (List UInt8)):Prop where
 len:hs.length=bss.length
 get:∀(i:Nat) h b,hs[i]?=some h→bss[i]?=some b→h.2.1=b.length∧Sl H Ai h.1 h.2.2 b∧∀x,h.1=some x→b≠[]→¬F x.block
theorem Sl.fr' {α:Type} {e:Enc α} {F:Nat→Prop} {w w':World} {p:Option Addr} {c:Nat} {xs:List α} (h:Sl w.heap e p c xs) (hf:FrS F w w') (hn:∀x,p=some x→xs≠[]→¬F x.block):Sl w'.heap e p c xs:=by
 cases xs with
 | nil=>exact ⟨h.ok,fun i x hi=>by simp at hi⟩
 | cons y ys=>exact h.fr hf (fun x hx=>hn x hx (by simp))
theorem RH {α:Type} {xs:List (List α)} {i:Nat} {b:List α} (h:xs[i]?=some b):(xs.take (i+1)).flatten=(xs.take i).flatten++b:=by
 rw [AJ h,List.flatten_append];simp
theorem VL {α:Type} (xs:List (List α)) (i:Nat):(xs.take i).flatten.length≤xs.flatten.length:=by
 have:xs.flatten=(xs.take i).flatten++(xs.drop i).flatten:=by rw [← List.flatten_append,List.take_append_drop]
 rw [this,List.length_append];omega
theorem FrS.mono {F G:Nat→Prop} {w w':World} (h:FrS F w w') (hg:∀k,F k→G k):FrS G w w':=⟨h.os,h.tape,h.output,h.size,fun k hk hn=>h.block k hk (fun e=>hn (hg k e))⟩
theorem FrS.one {w w':World} {b:Nat} (hf:FrS (fun q=>q=b) w w'):w.grownBy w' (some b) :=
 ⟨hf.os,hf.tape,hf.output,hf.size,fun q hq hne=>hf.block q hq (fun e=>hne (by rw [e]))⟩
end Go.V
namespace Go.Proofs.YtkcolpfanmdmiaaGreatDoor
open Go.V
attribute [local irreducible] Blk Own hcell Ao Ab PlainT Ak Ad Ap Aa Ag EqT Au
structure FdY where
 a:Nat
 r:RS
 pw:Option Addr
 cw:Nat
 hs:List Hdr
 ls:List (List ByteArray)
 pd:Option Addr
 cd:Nat
def Lg (H:Array Obj) (k:Nat):Prop:=∃cur,H[k]?=some (.cells cur 9 (0,0))
theorem IA {H:Array Obj} {k t:Nat} {cs:List Value} (h:Blk H k t cs) (ht:t≠9):¬Lg H k:=by
 rintro ⟨cur,e⟩
 unfold Blk at h
 rw [h] at e
 injection e with e
 injection e with _ e2 _
 exact ht e2
theorem Hr {α:Type} {e:Enc α} {w:World} {B T:Nat} {p:Option Addr} {c:Nat} {xs:List α} (h:Go.V.Own w B T e p c xs) (hT:T≠9) {k:Nat} (hk:blk p=some k):¬Lg w.heap k:=by
 rintro ⟨cur,e⟩
 obtain ⟨cur',e'⟩:=h.at hk
 rw [e'] at e
 injection e with e
 injection e with _ e2 _
 exact hT e2
def Bj (H:Array Obj) (X:Nat→Prop) (hs:List Hdr) (ls:List (List ByteArray)):Prop:=BL (veil (fun k=>X k∨¬Lg H k) H) hs ls
theorem Bj.nil {H:Array Obj} {X:Nat→Prop}:Bj H X [] []:=BL.nil
theorem Bj.fr {F X X':Nat→Prop} {w w':World} {hs:List Hdr} {ls:List (List ByteArray)} (h:Bj w.heap X hs ls) (hf:FrS F w w') (hh:∀k,k<w.heap.size→Lg w.heap k→¬X k→¬F k∧¬X' k):Bj w'.heap X' hs ls:=by
 unfold Bj at *
 refine h.hide (fun q hn hq=>?_)
 have h1:Lg w.heap q:=Classical.byContradiction fun e=>hn (.inr e)
 obtain ⟨h2,h3⟩:=hh q hq h1 (fun e=>hn (.inl e))
 have h4:=hf.block q hq h2
 refine ⟨fun e=>e.elim h3 (fun e=>e ?_),h4⟩
 obtain ⟨cur,e1⟩:=h1
 exact ⟨cur,by rw [h4];exact e1⟩
theorem Bj.ext {X:Nat→Prop} {w w':World} {hs:List Hdr} {ls:List (List ByteArray)} (h:Bj w.heap X hs ls) (hx:Ext w w'):Bj w'.heap X hs ls:=h.fr (FrS.of_ext (F:=fun _=>False) hx) (fun _ _ _ h=>⟨id,h⟩)
theorem Bj.snoc {w:World} {X:Nat→Prop} {hs:List Hdr} {ls:List (List ByteArray)} {B:Nat} {q:Option Addr} {d:Nat} {l:List ByteArray} (h:Bj w.heap X hs ls) (hO:Go.V.Own w B 9 Ar q d l) (hq:∀k,blk q=some k→¬X k):Bj w.heap X (hs++[(q,l.length,d)]) (ls++[l]) :=
 BL.snoc h (hO.hidden (fun k hk e=>e.elim (hq k hk) (fun e=>e (hO.at hk))))
theorem Bj.app {H:Array Obj} {X:Nat→Prop} {hs hs':List Hdr} {ls ls':List (List ByteArray)} (h:Bj H X hs ls) (k:Bj H X hs' ls'):Bj H X (hs++hs') (ls++ls'):=BL.app h k
structure FdO (w w':World) (ar a2 a8:Nat) (p0 pw0 p:Option Addr) (y:FdY):Prop where
 gv:Mt w' ar w.heap.size a2 a8 y.pd y.cd y.hs
 cm:Bj w'.heap (fun k=>blk y.pw=some k) y.hs y.ls
 fr:FrS (fun k=>k=ar∨blk p0=some k∨blk pw0=some k) w w'
 np:∀k,blk p=some k→blk p0=some k∨w.heap.size≤k
 npw:∀k,blk y.pw=some k→blk pw0=some k∨w.heap.size≤k
 h8:w.heap.size≤a8
 h2:w.heap.size≤a2
theorem FdO.own {w w1 w':World} {ar a2 a8:Nat} {p0 pw0 p:Option Addr} {y:FdY} {cs:List Value} (h:FdO w w1 ar a2 a8 p0 pw0 p y) (hR:Blk w1.heap ar 192 cs) (hf:FrS (fun q=>q=ar) w1 w'):FdO w w' ar a2 a8 p0 pw0 p y :=
 ⟨⟨hf.blk h.gv.ptr (fun e=>BB h.gv.ptr hR (by decide) e),hf.blk h.gv.box (fun e=>BB h.gv.box hR (by decide) e),h.gv.row.kept hf.one (fun x hx e=>by injection e with e;exact h.gv.row.apart hx hR (by decide) e)⟩,
  h.cm.fr hf (fun q _ hs hn=>⟨fun e=>IA hR (by decide) (by rw [← e];exact hs),hn⟩),h.fr.trans hf (fun q _ e=>.inl e),h.np,h.npw,h.h8,h.h2⟩
theorem FdO.give {w0 w w1 w':World} {ar B a2 a8 c:Nat} {p0 pw0 p:Option Addr} {I:List UInt8} {y:FdY} {a:Nat} {r:RS} {ft:Int} {pd':Option Addr} {cd':Nat} {q:Option Addr} {d m:Nat} {l:List ByteArray} {a':Nat} {r':RS} (h:FdO w w1 ar a2 a8 p0 pw0 p y) (hR:Ba w0 w1 ar B p c I a y.pw y.cw r ft)
  (hG:Mt w' ar w.heap.size a2 a8 pd' cd' (y.hs++[(q,m,d)])) (hf:FrS (fun k=>k=ar∨k=a8∨bx k=y.pd) w1 w') (_:∀k,blk pd'=some k→blk y.pd=some k∨w1.heap.size≤k) (hm:m=l.length) {Bl:Nat} (hl:Go.V.Own w1 Bl 9 Ar q d l) :
  FdO w w' ar a2 a8 p0 pw0 p ⟨a',r',none,0,y.hs++[(q,m,d)],y.ls++[l],pd',cd'⟩:=by
 have hbp:∀k,bx k=y.pd→blk y.pd=some k:=fun k e=>by rw [← e];rfl
 have hsz:=h.fr.size
 have hp1:∀k,blk p=some k→k<w1.heap.size:=fun k hk=>(hR.row.ge k hk).2
 refine ⟨hG,?_,h.fr.trans hf (fun k hk e=>?_),h.np,fun k hk=>(by cases hk),h.h8,h.h2⟩
 ·subst hm
  refine ((h.cm.fr (FrS.of_ext (F:=fun _=>False) Ext.rfl') (X':=fun k=>blk (none:Option Addr)=some k) (fun q _ _ _=>⟨id,fun e=>by cases e⟩)).snoc hl (fun k _ e=>by cases e)).fr hf (fun q _ hs _=>⟨fun e=>?_,fun e=>by cases e⟩)
  rcases e with e|e|e
  ·exact IA hR.blk (by decide) (by rw [← e];exact hs)
  ·exact IA h.gv.box (by decide) (by rw [← e];exact hs)
  ·exact Hr h.gv.row (by decide) (hbp q e) hs
 ·rcases e with e|e|e
  ·exact .inl e
  ·have:=h.h8;omega
  ·have:=(h.gv.row.ge k (hbp k e)).1;omega
end Go.Proofs.YtkcolpfanmdmiaaGreatDoor
