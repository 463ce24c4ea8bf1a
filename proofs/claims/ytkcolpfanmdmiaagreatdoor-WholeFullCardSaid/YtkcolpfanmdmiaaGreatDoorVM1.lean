/- Texts of this proof laid together. -/
import Derived.Orders
import Derived.Below
import Derived.WalkKit
import Derived.Deep.AppendSrc
import Derived.Laws.MakeOwn
import Derived.Test.YtkcolpfanmdmiaaGreatDoorProg
import Derived.KernelRfl
import Derived.Shelf.SlGeneric
import Derived.Shelf.SortM.Plain
import Derived.Shelf.SortM.SortNone
import Derived.Ground.SlgmProg
import Derived.Shelf.Strconv.ParseIntPublic10
import Derived.Ground.NamesProg
import Derived.Shelf.Strings.IndexAnyAll
import Derived.Shelf.Strconv.Itoa4
import Derived.Lib.AtoiErrMem
import Derived.ProofKit
import Derived.OpenShut
import Derived.ChangeOld
import Derived.Deep.Slices
set_option maxHeartbeats 8000000
namespace Go.V
open Go.RowKit
theorem Kc {a b c:Prop} (h:c) (h1:a∨b:=by first|exact .inl rfl|exact .inr (by assumption)):(a∨b)∧c:=⟨h1,h⟩
abbrev Ext (w w':World):Prop:=Below w.heap.size w w'
theorem Ext.rfl' {w:World}:Ext w w:=Below.refl _ _
theorem Ext.trans {a b c:World} (h:Ext a b) (k:Ext b c):Ext a c:=Below.trans h (k.mono h.size)
def AA (S:List Nat) (k:Nat):Bool:=S.contains k || match S with
 | [_,l]=>Nat.ble l k
 | _=>false
structure Bd (S:List Nat) (w w':World):Prop where
 os:w'.os=w.os
 tape:w'.tape=w.tape
 output:w'.output=w.output
 size:w.heap.size≤w'.heap.size
 block:∀k,k<w.heap.size→AA S k=false→w'.heap[k]?=w.heap[k]?
theorem Bd.of_grown {S:List Nat} {row:Option Nat} {w w':World} (hg:w.grownBy w' row) (h:∀k,row=some k→AA S k=true):Bd S w w' :=
 ⟨hg.os,hg.tape,hg.output,hg.size,fun k hk hs=>hg.block k hk (fun e=>by rw [h k e.symm] at hs;cases hs)⟩
theorem Bd.rfl' {S:List Nat} {w:World}:Bd S w w:=⟨rfl,rfl,rfl,Nat.le_refl _,fun _ _ _=>rfl⟩
theorem Bd.trans {S:List Nat} {a b c:World} (h:Bd S a b) (k:Bd S b c):Bd S a c :=
 ⟨k.os.trans h.os,k.tape.trans h.tape,k.output.trans h.output,Nat.le_trans h.size k.size,fun i hi hs=>(k.block i (Nat.lt_of_lt_of_le hi h.size) hs).trans (h.block i hi hs)⟩
theorem Ext.toS {S:List Nat} {w w':World} (h:Ext w w'):Bd S w w':=⟨h.os,h.tape,h.output,h.size,fun k hk _=>h.block k hk⟩
theorem Bd.toE {w w':World} (h:Bd [] w w'):Ext w w':=⟨h.os,h.tape,h.output,h.size,fun k hk=>h.block k hk rfl⟩
def QF:Exit→Act→World→Prop:=fun _ _ _=>False
def DZ (P:Program) (S:List Nat) (wr:Oper→Bool) (o:Oper) (K:Act→World→Prop) (a:Act) (w:World):Prop :=
 o.wp P a w (fun a' w'=>(wr o=true∨Bd S w w')∧K a' w') QF
def opX (P:Program) (S:List Nat) (ops:Array Oper) (wr:Oper→Bool) (i:Nat) (K:Act→World→Prop) (a:Act) (w:World):Prop :=
 match ops[i]? with
 | none=>K a w
 | some o=>if Region.wanted o (yielded ops a.tmps) then DZ P S wr o K a w else K (a.put o.dst undef) w
def wpX (P:Program) (S:List Nat) (ops:Array Oper) (wr:Oper→Bool) (K:Act→World→Prop):Nat→Array Bool→Act→World→Prop
 | 0,listed,a,w=>Region.ready .any ops listed=[]∧K a w
 | fuel+1,listed,a,w =>
  (Region.ready .any ops listed=[]→K a w) ∧
  ∀i∈Region.ready .any ops listed,opX P S ops wr i (wpX P S ops wr K fuel (listed.setIfInBounds i true)) a w
theorem Xe {P:Program} {o:Oper} {a:Act} {w:World} {K:Act→World→Prop} {Q:Exit→Act→World→Prop} (h:o.wp P a w K QF):o.wp P a w K Q:=by
 unfold Oper.wp at *
 generalize (execOp a.eval o).run P w=r at *
 cases r with
 | ok n w' =>
  cases n <;> simp only [Oper.upon] at h ⊢ <;>
   first
    | exact h
    | exact Calls.mono h (fun e w'' he=>by cases e with|returned v=>exact he|panicked c=>exact he.elim|outgrown=>obtain ⟨_,_,hh⟩:=he;exact hh.elim)
 | halt x w'=>cases x <;> simp only [Oper.upon] at h ⊢ <;> exact h.elim
theorem Gb {P:Program} {S:List Nat} {wr:Oper→Bool} {o:Oper} {K K':Act→World→Prop} {a:Act} {w:World} (h:∀a w,K a w→K' a w) (hh:DZ P S wr o K a w):DZ P S wr o K' a w :=
 Oper.wp_mono (fun _ _ ⟨h1,h2⟩=>⟨h1,h _ _ h2⟩) hh
theorem Fh {P:Program} {S:List Nat} {ops:Array Oper} {wr:Oper→Bool} {i:Nat} {K K':Act→World→Prop} {a:Act} {w:World} (h:∀a w,K a w→K' a w) (hh:opX P S ops wr i K a w):opX P S ops wr i K' a w:=by
 unfold opX at *
 split
 ·exact h _ _ (by simpa [*] using hh)
 ·rename_i o ho
  simp only [ho] at hh
  split
  ·rename_i hw;simp only [hw,if_true] at hh;exact Gb h hh
  ·rename_i hw;simp only [hw] at hh;exact h _ _ hh
theorem EM {P:Program} {S:List Nat} {ops:Array Oper} {wr:Oper→Bool} {K:Act→World→Prop} {Q:Exit→Act→World→Prop} (hQ:∀a w,K a w→Q .normal a w) :
  ∀(fuel:Nat) (listed:Array Bool) (a:Act) (w:World),wpX P S ops wr K fuel listed a w→wpAny P .any ops Q fuel listed a w
 | 0,_,_,_,h=>⟨h.1,hQ _ _ h.2⟩
 | fuel+1,listed,a,w,h=>⟨fun h0=>hQ _ _ (h.1 h0),fun i hi=>by
   have h1:=Fh (fun a w=>EM hQ fuel (listed.setIfInBounds i true) a w) (h.2 i hi)
   unfold opX at h1
   unfold wpOp
   split
   ·rename_i ho;simp only [ho] at h1;exact h1
   ·rename_i o ho
    simp only [ho] at h1
    split
    ·rename_i hw;simp only [hw,if_true] at h1;exact .inl (Xe (Oper.wp_mono (fun _ _ h=>h.2) h1))
    ·rename_i hw;simp only [hw] at h1;exact h1⟩
def YX (P:Program) (S:List Nat) (ops:Array Oper) (rd:Oper→Bool) (o:Oper) (v:Value) (a:Act) (w:World):Prop :=
 (Region.wanted o (yielded ops a.tmps)=true∧∀w',(rd o=false∨Bd S w w')→(execOp a.eval o).run P w'=.ok (.value v) w') ∨
 (Region.wanted o (yielded ops a.tmps)=false∧v=undef)
theorem YX.ext {P:Program} {S:List Nat} {ops:Array Oper} {rd:Oper→Bool} {o:Oper} {v:Value} {a:Act} {w w':World} (h:YX P S ops rd o v a w) (hx:rd o=false∨Bd S w w'):YX P S ops rd o v a w':=by
 rcases h with ⟨h1,h2⟩|h
 ·refine .inl ⟨h1,fun w'' h''=>h2 w'' ?_⟩
  rcases hx with hx|hx
  ·exact .inl hx
  ·rcases h'' with h''|h''
   ·exact .inl h''
   ·exact .inr (hx.trans h'')
 ·exact .inr h
theorem YX.opX {P:Program} {S:List Nat} {ops:Array Oper} {rd wr:Oper→Bool} {i:Nat} {o:Oper} {v:Value} {a:Act} {w:World} (hi:ops[i]?=some o) (hy:YX P S ops rd o v a w)
  {K:Act→World→Prop} (h:K (a.put o.dst v) w):V.opX P S ops wr i K a w:=by
 unfold V.opX
 simp only [hi]
 rcases hy with ⟨hw,hv⟩|⟨hw,rfl⟩
 ·simp only [hw,if_true,DZ,Oper.wp,hv w (.inr Bd.rfl'),Oper.upon];exact ⟨.inr Bd.rfl',h⟩
 ·simp only [hw,Bool.false_eq_true,if_false];exact h
theorem YX.of_same {P:Program} {S:List Nat} {ops:Array Oper} {rd:Oper→Bool} {o:Oper} {v:Value} {a a':Act} {w:World} (hy:YX P S ops rd o v a w) (he:execOp a'.eval o=execOp a.eval o)
  (hw:Region.wanted o (yielded ops a'.tmps)=Region.wanted o (yielded ops a.tmps)):YX P S ops rd o v a' w:=by
 unfold YX at *
 rw [he,hw]
 exact hy
theorem Wo {P:Program} {S:List Nat} {ops:Array Oper} {rd wr:Oper→Bool} {j:Nat} {oi oj:Oper} {v:Value} (hj:ops[j]?=some oj) (hap:oi.apart ops oj=true) (hnw:wr oj=false∨rd oi=false)
  (hsi:∀cs b,oi.op≠.select cs b) (hsj:∀cs b,oj.op≠.select cs b) {K:Act→World→Prop} {a:Act} {w:World}
  (hy:YX P S ops rd oi v a w) (h:opX P S ops wr j K (a.put oi.dst v) w) :
  opX P S ops wr j (fun a' w'=>YX P S ops rd oi v a' w'∧K (a'.put oi.dst v) w') a w:=by
 obtain ⟨h1,h2,h3⟩:=Oper.apart_spec hap
 have keep:∀(a:Act) (w:World),YX P S ops rd oi v a w→∀u,YX P S ops rd oi v (a.put oj.dst u) w:=fun a w hy u =>
  hy.of_same (execOp_put oi hsi a oj.dst u h3) (wanted_put oi a oj.dst u h3)
 have tr:∀w',(wr oj=true∨Bd S w w')→(rd oi=false∨Bd S w w'):=fun w' h=>by
  rcases hnw with hn|hn
  ·rw [hn] at h;exact .inr (by simpa using h)
  ·exact .inl hn
 have keepD:∀w d,YX P S ops rd oi v a w→YX P S ops rd oi v { a with defers:=d :: a.defers } w:=fun w d hy=>hy.of_same rfl rfl
 unfold opX at *
 simp only [hj] at *
 rw [wanted_put oj a oi.dst v h1] at h
 split
 ·rename_i hw
  simp only [hw,if_true] at h
  unfold DZ Oper.wp at *
  rw [execOp_put oj hsj a oi.dst v h1] at h
  generalize (execOp a.eval oj).run P w=r at *
  cases r with
  | ok n w' =>
   cases n <;> simp only [Oper.upon] at h ⊢
   case value u=>exact ⟨h.1,keep a _ (hy.ext (tr _ h.1)) u,by rw [← Act.put_comm a v u h2];exact h.2⟩
   case skip=>exact ⟨h.1,keep a _ (hy.ext (tr _ h.1)) _,by rw [← Act.put_comm a v undef h2];exact h.2⟩
   case defer d =>
    refine ⟨h.1,keep _ _ (keepD _ d (hy.ext (tr _ h.1))) _,?_⟩
    rw [← Act.put_comm _ v undef h2,← Act.put_defers]
    exact h.2
   case enter f args =>
    refine Calls.mono h fun e w'' he=>?_
    cases e with
    | returned u=>exact ⟨he.1,keep a _ (hy.ext (tr _ he.1)) u,by rw [← Act.put_comm a v u h2];exact he.2⟩
    | panicked c=>exact he
    | outgrown=>exact he
   case row row args=>exact Rows.mono h fun u w'' he=>⟨he.1,keep a _ (hy.ext (tr _ he.1)) u,by rw [← Act.put_comm a v u h2];exact he.2⟩
  | halt x w'=>cases x <;> simp only [Oper.upon] at h ⊢ <;> exact h
 ·rename_i hw
  simp only [hw] at h
  exact ⟨keep a _ hy _,by rw [← Act.put_comm a v undef h2];exact h⟩
theorem Mr {P:Program} {S:List Nat} {ops:Array Oper} {rd wr:Oper→Bool} {K:Act→World→Prop} {i:Nat} {oi:Oper} {v:Value} (hi:ops[i]?=some oi)
  (hsel:∀(j:Nat) (o:Oper) cs b,ops[j]?=some o→o.op≠.select cs b) :
  ∀(fuel:Nat) (listed:Array Bool) (a:Act) (w:World),
   (∀j oj,ops[j]?=some oj→j≠i→listed.getD j true=false→(∀e∈oj.after,Region.binds .any e=true→e.on≠i)→oi.apart ops oj=true∧(wr oj=false∨rd oi=false)) →
   i∈Region.ready .any ops listed→YX P S ops rd oi v a w →
   wpX P S ops wr K fuel (listed.setIfInBounds i true) (a.put oi.dst v) w→wpX P S ops wr K (fuel+1) listed a w:=by
 intro fuel
 induction fuel with
 | zero =>
  intro listed a w _ hr hy H
  refine ⟨fun h=>(by rw [h] at hr;cases hr),fun j hj=>?_⟩
  by_cases hji:j=i
  ·subst hji;exact hy.opX hi H
  ·have:=ready_mono hj hji
   rw [H.1] at this
   cases this
 | succ fuel ih =>
  intro listed a w hfree hr hy H
  refine ⟨fun h=>(by rw [h] at hr;cases hr),fun j hj=>?_⟩
  by_cases hji:j=i
  ·subst hji;exact hy.opX hi H
  ·have h1:=H.2 j (ready_mono hj hji)
   obtain ⟨hjun,oj,hoj,hall⟩:=mem_ready.1 hj
   have hnot:∀e∈oj.after,Region.binds .any e=true→e.on≠i:=fun e he hb heq=>by
    have h1:=hall e he hb
    have h0:=(mem_ready.1 hr).1
    rw [heq] at h1
    rcases Nat.lt_or_ge i listed.size with h'|h'
    ·simp [h'] at h0 h1;rw [h0] at h1;cases h1
    ·simp [Array.getElem?_eq_none h'] at h1
   obtain ⟨hap,hnw⟩:=hfree j oj hoj hji hjun hnot
   have h2:=Wo hoj hap hnw (fun cs b=>hsel i oi cs b hi) (fun cs b=>hsel j oj cs b hoj) hy h1
   have hfree':∀k ok,ops[k]?=some ok→k≠i→(listed.setIfInBounds j true).getD k true=false →
     (∀e∈ok.after,Region.binds .any e=true→e.on≠i)→oi.apart ops ok=true∧(wr ok=false∨rd oi=false):=fun k ok hk hki hun hno=>by
    refine hfree k ok hk hki ?_ hno
    by_cases hjk:j=k
    ·subst hjk;exact hjun
    ·rw [getD_set_ne true hjk] at hun;exact hun
   refine Fh (fun a' w' h3=>ih (listed.setIfInBounds j true) a' w' hfree' (ready_mono hr (Ne.symm hji)) h3.1 ?_) h2
   rw [Array.setIfInBounds_comm _ _ hji]
   exact h3.2
def QC (ops:Array Oper) (rd wr:Oper→Bool) (listed:Array Bool) (i:Nat):Bool :=
 match ops[i]? with
 | none=>false
 | some oi=>(List.range ops.size).all fun j=>j == i || listed.getD j true || match ops[j]? with
   | some oj=>oj.after.any (fun e=>Region.binds .any e && e.on == i) || (oi.apart ops oj && (!wr oj || !rd oi))
   | none=>true
theorem JV {ops:Array Oper} {rd wr:Oper→Bool} {i:Nat} {oi:Oper} {listed:Array Bool} (hi:ops[i]?=some oi) (h:QC ops rd wr listed i=true) (j:Nat) (oj:Oper)
  (hj:ops[j]?=some oj) (hne:j≠i) (hun:listed.getD j true=false) (hno:∀e∈oj.after,Region.binds .any e=true→e.on≠i) :
  oi.apart ops oj=true∧(wr oj=false∨rd oi=false):=by
 simp only [QC,hi,List.all_eq_true,List.mem_range] at h
 have h1:=h j (Array.getElem?_eq_some_iff.1 hj).1
 simp only [hj,Bool.or_eq_true,beq_iff_eq,hne,false_or,hun,Bool.false_eq_true] at h1
 rcases h1 with h1|h1
 ·obtain ⟨e,he,hb⟩:=Array.any_eq_true'.1 h1
  simp only [Bool.and_eq_true,beq_iff_eq] at hb
  exact absurd hb.2 (hno e he hb.1)
 ·simpa using h1
def okc (ops:Array Oper) (ef rd wr:Oper→Bool):List Nat→Array Bool→Bool
 | [],listed=>(Region.ready .any ops listed).isEmpty
 | i :: c,listed =>
  (if ef (ops.getD i default) then Region.ready .any ops listed == [i] else (Region.ready .any ops listed).contains i && QC ops rd wr listed i) && okc ops ef rd wr c (listed.setIfInBounds i true)
def GA (P:Program) (S:List Nat) (ops:Array Oper) (ef rd wr:Oper→Bool) (K:Act→World→Prop):List Oper→Act→World→Prop
 | [],a,w=>K a w
 | o :: l,a,w =>
  (∃v,YX P S ops rd o v a w∧GA P S ops ef rd wr K l (a.put o.dst v) w) ∨
  (ef o=true∧Region.wanted o (yielded ops a.tmps)=true∧DZ P S wr o (GA P S ops ef rd wr K l) a w)
theorem En {P:Program} {S:List Nat} {ops:Array Oper} {ef rd wr:Oper→Bool} {K:Act→World→Prop} (hs:Region.noSelect ops=true) :
  ∀(c:List Nat) (listed:Array Bool) (a:Act) (w:World),okc ops ef rd wr c listed=true →
   GA P S ops ef rd wr K (c.map fun i=>ops.getD i default) a w→wpX P S ops wr K c.length listed a w
 | [],listed,a,w,hc,h=>⟨by simpa [okc] using hc,h⟩
 | i :: c,listed,a,w,hc,h=>by
  simp only [okc,Bool.and_eq_true] at hc
  obtain ⟨h0,hc⟩:=hc
  have hmem:i∈Region.ready .any ops listed:=by
   by_cases he:ef (ops.getD i default)=true
   ·simp only [he,if_true,beq_iff_eq] at h0;rw [h0];simp
   ·simp only [he] at h0;simp at h0;exact h0.1
  obtain ⟨_,o,ho,_⟩:=mem_ready.1 hmem
  have hget:ops.getD i default=o:=by
   have:=Array.getElem?_eq_some_iff.1 ho
   simp [Array.getD,this.1,this.2]
  simp only [List.map_cons] at h
  rw [hget] at h h0
  simp only [GA] at h
  have alone:ef o=true→∀K',opX P S ops wr i K' a w→(∀a w,K' a w→wpX P S ops wr K c.length (listed.setIfInBounds i true) a w)→wpX P S ops wr K (i :: c).length listed a w:=by
   intro he K' hop hK
   simp only [he,if_true,beq_iff_eq] at h0
   refine ⟨fun h=>(by rw [h] at hmem;cases hmem),fun j hj=>?_⟩
   rw [h0] at hj
   obtain rfl:j=i:=by simpa using hj
   exact Fh hK hop
  rcases h with ⟨v,hy,h⟩|⟨he,hw,h⟩
  ·by_cases he:ef o=true
   ·exact alone he (fun a w=>GA P S ops ef rd wr K (c.map fun i=>ops.getD i default) a w) (hy.opX ho h) (fun a w h=>En hs c _ a w hc h)
   ·simp only [he] at h0
    simp only [Bool.false_eq_true,if_false,Bool.and_eq_true] at h0
    exact Mr ho (Region.noSelect_spec hs) c.length listed a w (JV ho h0.2) hmem hy (En hs c _ _ w hc h)
  ·refine alone he _ ?_ (fun a w h=>En hs c _ a w hc h)
   unfold opX
   simp only [ho,hw,if_true]
   exact h
theorem OO {P:Program} {S:List Nat} {ops:Array Oper} {ef rd wr:Oper→Bool} {K:Act→World→Prop} {Q:Exit→Act→World→Prop} (hQ:∀a w,K a w→Q .normal a w) :
  ∀(m k:Nat) (l:List Oper) (a:Act) (w:World),l.length=m→(∀j,l[j]?=ops[k+j]?) →
   GA P S ops ef rd wr K l a w→wpOps P ops Q (List.range' k m) a w
 | 0,k,l,a,w,hm,hl,h=>by
  obtain rfl:l=[]:=List.eq_nil_of_length_eq_zero hm
  simpa [wpOps] using hQ _ _ h
 | m+1,k,[],a,w,hm,hl,h=>by simp at hm
 | m+1,k,o :: l,a,w,hm,hl,h=>by
  have h0:ops[k]?=some o:=by simpa using (hl 0).symm
  have ih:=fun a w=>OO hQ (P:=P) (S:=S) (ops:=ops) (ef:=ef) (rd:=rd) (wr:=wr) m (k+1) l a w (by simpa using hm)
   (fun j=>by have:=hl (j+1);simpa [Nat.add_assoc,Nat.add_comm 1 j] using this)
  simp only [List.range'_succ,wpOps,h0]
  simp only [GA] at h
  rcases h with ⟨v,hy,h⟩|⟨he,hw,h⟩
  ·rcases hy with ⟨hw,hv⟩|⟨hw,rfl⟩
   ·simp only [hw,if_true,Oper.wp,hv w (.inr Bd.rfl'),Oper.upon];exact .inl (ih _ _ h)
   ·simp only [hw,Bool.false_eq_true,if_false];exact ih _ _ h
  ·simp only [hw,if_true]
   exact .inl (Xe (Oper.wp_mono (fun a w h=>ih _ _ h.2) h))
abbrev Env:=List (Nat × Value)
def Env.get:Env→Nat→Option Value
 | [],_=>none
 | (s,v) :: E,t=>bif Nat.beq s t then some v else Env.get E t
def DK:Nat:=1000000
def Env.look (E:Env):Operand→Option Value
 | .tmp t=>bif Nat.beq t DK then none else E.get t
 | .const v=>some v
 | .global g=>some (.pointer (some ⟨g,0,none⟩))
 | .func f=>some (.func (.func f) #[] #[])
def Env.looks (E:Env):List Operand→Option (List Value)
 | []=>some []
 | x :: xs=>match E.look x,E.looks xs with
  | some v,some vs=>some (v :: vs)
  | _,_=>none
def Env.put (E:Env) (d:Option Nat) (v:Value):Env:=match d with
 | some d=>(d,v) :: E
 | none=>E
def Env.dfr (E:Env):List Deferred:=match E.get DK with
 | some (.func fv _ cap)=>[⟨.fn fv cap,#[]⟩]
 | some (.pointer (some a))=>[⟨.collected a.block,#[]⟩]
 | _=>[]
structure Holds (n:Nat) (E:Env) (a:Act):Prop where
 defers:a.defers=E.dfr
 size:a.tmps.size=n
 le:n≤DK
 dk:∀v,E.get DK=some v→(∀b,v≠.bool b)∧∀t,v≠.tuple t
 get:∀t v,E.get t=some v→t=DK∨a.tmps[t]?=some v
theorem Env.look_tmp {E:Env} {t:Nat} {v:Value} (h:E.look (.tmp t)=some v):t≠DK∧E.get t=some v:=by
 simp only [Env.look] at h
 by_cases e:t=DK
 ·subst e;simp at h
 ·have:Nat.beq t DK=false:=by
   cases hb:Nat.beq t DK with
   | true=>exact absurd (Nat.eq_of_beq_eq_true hb) e
   | false=>rfl
  rw [this] at h
  exact ⟨e,h⟩
theorem Holds.eval {n:Nat} {E:Env} {a:Act} (h:Holds n E a) {x:Operand} {v:Value} (hx:E.look x=some v):a.eval x=v:=by
 cases x with
 | tmp t =>
  obtain ⟨h1,h2⟩:=Env.look_tmp hx
  simp [Act.eval,(h.get t v h2).resolve_left h1]
 | const u=>simpa [Env.look,Act.eval] using hx
 | global g=>simpa [Env.look,Act.eval] using hx
 | func f=>simpa [Env.look,Act.eval] using hx
theorem Holds.evals {n:Nat} {E:Env} {a:Act} (h:Holds n E a):∀{xs:List Operand} {vs:List Value},E.looks xs=some vs→xs.map a.eval=vs
 | [],vs,hx=>by simpa [Env.looks] using hx
 | x :: xs,vs,hx=>by
  simp only [Env.looks] at hx
  split at hx
  ·rename_i v us h1 h2
   obtain rfl:v :: us=vs:=by simpa using hx
   simp [h.eval h1,h.evals h2]
  ·simp at hx
theorem Env.get_cons (s t:Nat) (v:Value) (E:Env):Env.get ((s,v) :: E) t=if s=t then some v else E.get t:=by
 show (bif Nat.beq s t then some v else Env.get E t)=_
 by_cases h:s=t
 ·subst h;simp
 ·have:Nat.beq s t=false:=by
   cases hb:Nat.beq s t with
   | true=>exact absurd (Nat.eq_of_beq_eq_true hb) h
   | false=>rfl
  simp [this,h]
theorem Env.dfr_cons {E:Env} {d:Nat} (v:Value) (hd:d≠DK):Env.dfr ((d,v) :: E)=E.dfr:=by
 simp only [Env.dfr,Env.get_cons,hd,if_false]
theorem Holds.put {n:Nat} {E:Env} {a:Act} (h:Holds n E a) (d:Option Nat) (v:Value) (hd:∀t,d=some t→t<n):Holds n (E.put d v) (a.put d v):=by
 cases d with
 | none=>exact h
 | some d =>
  have hdk:d≠DK:=by have:=hd d rfl;have:=h.le;omega
  refine ⟨?_,by simpa [Act.put] using h.size,h.le,fun u hu=>?_,fun t u ht=>?_⟩
  ·simp only [Env.put,Env.dfr_cons v hdk];simpa [Act.put] using h.defers
  ·simp only [Env.put,Env.get_cons,hdk,if_false] at hu;exact h.dk u hu
  simp only [Env.put,Env.get_cons] at ht
  simp only [Act.put]
  by_cases e:d=t
  ·subst e
   simp only [if_true,Option.some.injEq] at ht
   subst ht
   have:=hd d rfl
   exact .inr (by simp [h.size,this])
  ·simp only [e,if_false] at ht
   rw [Array.getElem?_setIfInBounds_ne e]
   exact h.get t u ht
def Env.sub:Env→Env→Prop
 | [],_=>True
 | (t,v) :: E',E=>E.get t=some v∧Env.sub E' E
abbrev Env.dks (E' E:Env):Prop:=(E'.get DK).isSome=(E.get DK).isSome
theorem Env.sub_get {E:Env}:∀{E':Env},Env.sub E' E→∀t v,E'.get t=some v→E.get t=some v
 | [],_,t,v,h=>by simp [Env.get] at h
 | (s,u) :: E',hs,t,v,h=>by
  rw [Env.get_cons] at h
  by_cases e:s=t
  ·subst e
   simp only [if_true,Option.some.injEq] at h
   subst h
   exact hs.1
  ·simp only [e,if_false] at h
   exact Env.sub_get hs.2 t v h
theorem Env.sub_dk {E' E:Env} (h:Env.sub E' E) (h1:Env.dks E' E):E'.get DK=E.get DK:=by
 unfold Env.dks at h1
 cases h2:E'.get DK with
 | some v=>rw [Env.sub_get h _ _ h2]
 | none =>
  rw [h2] at h1
  cases h3:E.get DK with
  | none=>rfl
  | some v=>rw [h3] at h1;cases h1
theorem Holds.sub {n:Nat} {E:Env} {a:Act} (h:Holds n E a) {E':Env} (hs:Env.sub E' E) (hD:Env.dks E' E):Holds n E' a :=
 ⟨by rw [h.defers];simp only [Env.dfr,Env.sub_dk hs hD],h.size,h.le,fun v hv=>h.dk v (by rw [← Env.sub_dk hs hD];exact hv),fun t v ht=>h.get t v (Env.sub_get hs t v ht)⟩
def RL (ops:Array Oper) (E:Env):Option (Nat × Bool)→Option Bool
 | none=>some true
 | some (j,want)=>match (ops[j]?).bind (·.dst) with
  | some t=>match E.get t with
   | some (.bool b)=>some (b == want)
   | some (.tuple _)=>some false
   | _=>none
  | none=>none
theorem Mq {n:Nat} {ops:Array Oper} {E:Env} {o:Oper} {a:Act} {b:Bool} (h:Holds n E a) (hg:RL ops E o.guard=some b) :
  Region.wanted o (yielded ops a.tmps)=b:=by
 unfold Region.wanted
 cases hgd:o.guard with
 | none=>rw [hgd] at hg;simpa [RL] using hg
 | some jw =>
  obtain ⟨j,want⟩:=jw
  rw [hgd] at hg
  simp only [RL] at hg
  split at hg
  ·rename_i t ht
   split at hg
   ·rename_i c hc
    obtain rfl:(c == want)=b:=by simpa using hg
    have:=(h.get t _ hc).resolve_left (fun e=>by subst e;exact (h.dk _ hc).1 _ rfl)
    simp only [yielded,ht,Option.bind_some,this]
    cases c <;> cases want <;> rfl
   ·rename_i c hc
    obtain rfl:false=b:=by simpa using hg
    have:=(h.get t _ hc).resolve_left (fun e=>by subst e;exact (h.dk _ hc).2 _ rfl)
    simp only [yielded,ht,Option.bind_some,this]
    cases want <;> rfl
   ·simp at hg
  ·simp at hg
def Am (P:Program) (dr:Nat) (o:Oper):Bool :=
 dr == 0 || match o.op with
 | .move _ | .assign _ | .pick .. | .load .. | .nilCheck _ | .binOp .. | .unOp .. | .fieldAddr .. | .field .. | .indexAddr .. | .index .. | .slice ..
 | .extract .. | .makeFunc .. | .makeInterface .. | .build .. | .lookup ..=>false
 | .convert _ dst _=>match P.underlying dst with
  | some (.slice _)=>true
  | _=>false
 | .call { callee:=.builtin .len,.. } | .call { callee:=.builtin .cap,.. } | .call { callee:=.builtin .min,.. } | .call { callee:=.builtin .max,.. }=>false
 | _=>true
def writes (dr:Nat) (o:Oper):Bool :=
 dr == 0 || match o.op with
 | .store ..=>dr != 3
 | .mapUpdate .. | .insert .. | .entryStore .. | .next ..=>true
 | .call { callee:=.builtin .append,.. } | .call { callee:=.builtin .copy,.. } | .call { callee:=.builtin .delete,.. } | .call { callee:=.builtin .clear,.. }=>true
 | .call { callee:=.value _,.. }=>dr == 2
 | .call { callee:=.invoke _ _,.. }=>dr == 2
 | _=>false
def Bi (P:Program) (o:Oper):Bool :=
 match o.op with
 | .move _ | .assign _ | .pick .. | .nilCheck _ | .unOp .. | .fieldAddr .. | .field .. | .indexAddr .. | .index .. | .slice ..
 | .extract .. | .makeFunc .. | .makeInterface .. | .build ..=>false
 | .binOp _ t ..=>match P.underlying t with
  | some (.pointer _)=>true
  | _=>false
 | .call { callee:=.builtin .min,.. } | .call { callee:=.builtin .max,.. }=>false
 | .call { callee:=.builtin .len,argTypes,.. } | .call { callee:=.builtin .cap,argTypes,.. }=>match P.underlying (argTypes.getD 0 0) with
  | some (.map _ _)=>true
  | some (.chan _ _)=>true
  | _=>false
 | _=>true
def Ah (n:Nat):Option Nat→Bool
 | none=>true
 | some d=>Nat.blt d n
theorem Be {n:Nat} {d:Option Nat} (h:Ah n d=true):∀t,d=some t→t<n:=by
 rintro t rfl
 simpa [Ah] using h
variable (P : Program) (n : Nat) (ops : Array Oper) (dr : Nat × List Nat)
def G (l:List Oper) (E:Env) (w:World) (K:Env→World→Prop):Prop :=
 ∀a,Holds n E a→GA P dr.2 ops (Am P dr.1) (Bi P) (writes dr.1) (fun a' w'=>∃E',Holds n E' a'∧K E' w') l a w
def G1 (o:Oper) (l:List Oper) (E:Env) (w:World) (K:Env→World→Prop):Prop :=
 ∀a,Holds n E a→Region.wanted o (yielded ops a.tmps)=true→GA P dr.2 ops (Am P dr.1) (Bi P) (writes dr.1) (fun a' w'=>∃E',Holds n E' a'∧K E' w') (o :: l) a w
def W (c:Code) (Q:Exit→Act→World→Prop) (E:Env) (w:World):Prop:=∀a,Holds n E a→c.wp P Q a w
def Post (n:Nat) (Q:Exit→Act→World→Prop) (e:Exit) (E:Env) (w:World):Prop:=∀a,Holds n E a→Q e a w
variable {P : Program} {n : Nat} {ops : Array Oper} {dr : Nat × List Nat} {l : List Oper} {E : Env} {w : World} {K : Env → World → Prop} {Q : Exit → Act → World → Prop}
theorem Zu (h:K E w):G P n ops dr [] E w K:=fun _ ha=>⟨E,ha,h⟩
theorem ZO {o:Oper} (hg:RL ops E o.guard=some true) (h:G1 P n ops dr o l E w K):G P n ops dr (o :: l) E w K :=
 fun a ha=>h a ha (Mq ha hg)
theorem Q1 {o:Oper} (h:G1 P n ops dr o l E w K) (hg:RL ops E o.guard=some true:=by exact rfl):G P n ops dr (o :: l) E w K:=ZO hg h
theorem Zbe {o:Oper} (hg:RL ops E o.guard=some false) (hd:Ah n o.dst=true) (h:G P n ops dr l (E.put o.dst undef) w K):G P n ops dr (o :: l) E w K :=
 fun _ ha=>.inl ⟨undef,.inr ⟨Mq ha hg,rfl⟩,h _ (ha.put _ _ (Be hd))⟩
def WX (ops:Array Oper):Option (Nat × Bool)→Option Nat
 | none=>none
 | some (j,_)=>(ops[j]?).bind (·.dst)
theorem ZW {o:Oper} {t:Nat} {b:Bool} (_ht:WX ops o.guard=some t) (hb:E.get t=some (.bool b))
  (h1:b=true→G P n ops dr (o :: l) ((t,.bool true) :: E) w K) (h2:b=false→G P n ops dr (o :: l) ((t,.bool false) :: E) w K):G P n ops dr (o :: l) E w K:=by
 intro a ha
 have key:∀c,b=c→Holds n ((t,.bool c) :: E) a:=by
  rintro c rfl
  have hdk:t≠DK:=fun e=>by subst e;exact (ha.dk _ hb).1 _ rfl
  refine ⟨by rw [Env.dfr_cons _ hdk];exact ha.defers,ha.size,ha.le,fun v hv=>?_,fun s v hs=>?_⟩
  ·rw [Env.get_cons] at hv;simp only [hdk,if_false] at hv;exact ha.dk v hv
  rw [Env.get_cons] at hs
  by_cases e:t=s
  ·subst e
   simp only [if_true,Option.some.injEq] at hs
   subst hs
   exact ha.get _ _ hb
  ·simp only [e,if_false] at hs
   exact ha.get _ _ hs
 cases b with
 | true=>exact h1 rfl a (key _ rfl)
 | false=>exact h2 rfl a (key _ rfl)
theorem Zd {o:Oper} (v:Value) (hd:Ah n o.dst=true) (hv:∀a,Holds n E a→∀w',(Bi P o=false∨Bd dr.2 w w')→(execOp a.eval o).run P w'=.ok (.value v) w')
  (h:G P n ops dr l (E.put o.dst v) w K):G1 P n ops dr o l E w K :=
 fun a ha hw=>.inl ⟨v,.inl ⟨hw,hv a ha⟩,h _ (ha.put _ _ (Be hd))⟩
theorem Zs {o:Oper} (v:Value) (w':World) (he:Am P dr.1 o=true) (hd:Ah n o.dst=true) (hv:∀a,Holds n E a→(execOp a.eval o).run P w=.ok (.value v) w')
  (hx:writes dr.1 o=true∨Bd dr.2 w w') (h:G P n ops dr l (E.put o.dst v) w' K):G1 P n ops dr o l E w K :=
 fun a ha hw=>.inr ⟨he,hw,by unfold DZ Oper.wp;rw [hv a ha];exact ⟨hx,h _ (ha.put _ _ (Be hd))⟩⟩
theorem Zat {o:Oper} (w':World) (he:Am P dr.1 o=true) (hd:Ah n o.dst=true) (hv:∀a,Holds n E a→(execOp a.eval o).run P w=.ok .skip w')
  (hx:writes dr.1 o=true∨Bd dr.2 w w') (h:G P n ops dr l (E.put o.dst undef) w' K):G1 P n ops dr o l E w K :=
 fun a ha hw=>.inr ⟨he,hw,by unfold DZ Oper.wp;rw [hv a ha];exact ⟨hx,h _ (ha.put _ _ (Be hd))⟩⟩
def Ret (Φ:Value→World→Prop):Ending→World→Prop:=fun e w'=>∃v,e=.returned v∧Φ v w'
def Enters (P : Program) (f : FuncId) : Prop := ∃ fn, P.funcs[f]? = some fn ∧ fn.name ≠ "runtime.NumGoroutine" ∧ fn.body.isNone = false
def Ctr (P:Program) (f:FuncId) (args:List Value) (w:World) (Φ:Value→World→Prop):Prop:=Enters P f∧Calls P f args.toArray w (Ret Φ)
theorem Ctr.calls {f:FuncId} {args:List Value} {Φ:Value→World→Prop} (h:Ctr P f args w Φ):Calls P f args.toArray w (Ret Φ):=h.2
theorem Ctr.mono {f:FuncId} {args:List Value} {Φ Φ':Value→World→Prop} (h:Ctr P f args w Φ) (hh:∀v w',Φ v w'→Φ' v w'):Ctr P f args w Φ' :=
 ⟨h.1,h.2.mono fun _ _ ⟨v,he,hv⟩=>⟨v,he,hh _ _ hv⟩⟩
theorem BU {f:FuncId} (h:Enters P f) (args:Array Value) (w:World):(callFunc f args).run P w=.ok (.enter f args) w:=by
 obtain ⟨fn,hf,hn,hb⟩:=h
 simp only [callFunc,Sem.run_bind,run_program,Result.andThen_ok,hf]
 have hn' : (fn.name == "runtime.NumGoroutine") = false := by simpa using hn
 simp only [hn',hb,Bool.false_eq_true,if_false,Sem.run_pure]
theorem ZP {f:FuncId} {d:Option Nat} {args:Array Operand} {tys:Array TypeId} {ty:TypeId} {pos:String} {af:Array Edge} {g:Option (Nat × Bool)} {vs:List Value} {Φ:Value→World→Prop}
  (hargs:E.looks args.toList=some vs) (he:Am P dr.1 ⟨d,.call ⟨.value (.func f),args,tys⟩,ty,pos,af,g⟩=true) (hd:Ah n d=true)
  (hc:Ctr P f vs w Φ) (h:∀v w',Φ v w'→(writes dr.1 ⟨d,.call ⟨.value (.func f),args,tys⟩,ty,pos,af,g⟩=true∨Ext w w')∧G P n ops dr l (E.put d v) w' K) :
  G1 P n ops dr ⟨d,.call ⟨.value (.func f),args,tys⟩,ty,pos,af,g⟩ l E w K:=by
 intro a ha hw
 refine .inr ⟨he,hw,?_⟩
 have hm:args.map a.eval=vs.toArray:=by
  rw [← ha.evals hargs];apply Array.ext';simp
 unfold DZ Oper.wp
 have:(execOp a.eval ⟨d,.call ⟨.value (.func f),args,tys⟩,ty,pos,af,g⟩).run P w=.ok (.enter f vs.toArray) w:=by
  simp [execOp,resolve,Deferred.ofValue,Act.eval,invoke,hm,BU hc.1]
 rw [this]
 refine Calls.mono hc.2 ?_
 rintro e w' ⟨v,rfl,hv⟩
 exact ⟨(h v w' hv).1.imp id Ext.toS,(h v w' hv).2 _ (ha.put _ _ (Be hd))⟩
theorem Q4 {f:FuncId} {d:Option Nat} {args:Array Operand} {tys:Array TypeId} {ty:TypeId} {pos:String} {af:Array Edge} {g:Option (Nat × Bool)} {vs:List Value} {Φ:Value→World→Prop} (h:∀v w',Φ v w'→(writes dr.1 ⟨d,.call ⟨.value (.func f),args,tys⟩,ty,pos,af,g⟩=true∨Ext w w')∧G P n ops dr l (E.put d v) w' K) (hargs:E.looks args.toList=some vs:=by exact rfl) (he:Am P dr.1 ⟨d,.call ⟨.value (.func f),args,tys⟩,ty,pos,af,g⟩=true:=by exact rfl) (hd:Ah n d=true:=by exact rfl) (hc:Ctr P f vs w Φ):G1 P n ops dr ⟨d,.call ⟨.value (.func f),args,tys⟩,ty,pos,af,g⟩ l E w K:=ZP hargs he hd hc h
theorem Q36 {f:FuncId} {d:Option Nat} {args:Array Operand} {tys:Array TypeId} {ty:TypeId} {pos:String} {af:Array Edge} {g:Option (Nat × Bool)} {vs:List Value} {Φ:Value→World→Prop} (h:∀v w',Φ v w'→(writes dr.1 ⟨d,.call ⟨.value (.func f),args,tys⟩,ty,pos,af,g⟩=true∨Bd dr.2 w w')∧G P n ops dr l (E.put d v) w' K) (hargs:E.looks args.toList=some vs:=by exact rfl) (he:Am P dr.1 ⟨d,.call ⟨.value (.func f),args,tys⟩,ty,pos,af,g⟩=true:=by exact rfl) (hd:Ah n d=true:=by exact rfl) (hc:Ctr P f vs w Φ):G1 P n ops dr ⟨d,.call ⟨.value (.func f),args,tys⟩,ty,pos,af,g⟩ l E w K:=by
 intro a ha hw
 refine .inr ⟨he,hw,?_⟩
 have hm:args.map a.eval=vs.toArray:=by
  rw [← ha.evals hargs];apply Array.ext';simp
 unfold DZ Oper.wp
 have:(execOp a.eval ⟨d,.call ⟨.value (.func f),args,tys⟩,ty,pos,af,g⟩).run P w=.ok (.enter f vs.toArray) w:=by
  simp [execOp,resolve,Deferred.ofValue,Act.eval,invoke,hm,BU hc.1]
 rw [this]
 refine Calls.mono hc.2 ?_
 rintro e w' ⟨v,rfl,hv⟩
 exact ⟨(h v w' hv).1,(h v w' hv).2 _ (ha.put _ _ (Be hd))⟩
theorem Q22 {f:FuncId} {first:Array Value} {cap:Array Value} {x:Operand} {d:Option Nat} {args:Array Operand} {tys:Array TypeId} {ty:TypeId} {pos:String} {af:Array Edge} {g:Option (Nat × Bool)} {vs:List Value} {Φ:Value→World→Prop} (h:∀v w',Φ v w'→(writes dr.1 ⟨d,.call ⟨.value x,args,tys⟩,ty,pos,af,g⟩=true∨Ext w w')∧G P n ops dr l (E.put d v) w' K) (hf:E.look x=some (.func (.func f) first cap):=by exact rfl) (hargs:E.looks args.toList=some vs:=by exact rfl) (he:Am P dr.1 ⟨d,.call ⟨.value x,args,tys⟩,ty,pos,af,g⟩=true:=by exact rfl) (hd:Ah n d=true:=by exact rfl) (hc:Ctr P f (first.toList++vs++cap.toList) w Φ):G1 P n ops dr ⟨d,.call ⟨.value x,args,tys⟩,ty,pos,af,g⟩ l E w K:=by
 intro a ha hw
 refine .inr ⟨he,hw,?_⟩
 have hm:args.map a.eval=vs.toArray:=by
  rw [← ha.evals hargs];apply Array.ext';simp
 unfold DZ Oper.wp
 have e1:first++vs.toArray++cap=(first.toList++vs++cap.toList).toArray:=by
  apply Array.ext';simp
 have:(execOp a.eval ⟨d,.call ⟨.value x,args,tys⟩,ty,pos,af,g⟩).run P w=.ok (.enter f (first.toList++vs++cap.toList).toArray) w:=by
  rw [← e1]
  simp [execOp,resolve,Deferred.ofValue,ha.eval hf,invoke,hm,BU hc.1]
 rw [this]
 refine Calls.mono hc.2 ?_
 rintro e w' ⟨v,rfl,hv⟩
 exact ⟨(h v w' hv).1.imp id Ext.toS,(h v w' hv).2 _ (ha.put _ _ (Be hd))⟩
theorem ZN {x y:Code} (h:W P n x (Exit.then (y.wp P Q) Q) E w):W P n (.seq x y) Q E w:=fun a ha=>wp_seq (h a ha)
theorem Zan (h:Post n Q .normal E w):W P n .skip Q E w:=fun a ha=>wp_skip (h a ha)
theorem Xn {id:Nat} (h:Post n Q (.exit id) E w):W P n (.exit id) Q E w:=fun a ha=>wp_exit (h a ha)
theorem ZZ (h:Post n Q .ret E w):W P n .ret Q E w:=fun a ha=>wp_ret (h a ha)
theorem ZaW {id:Nat} {c:Code} (h:W P n c (Exit.inBlock id Q) E w):W P n (.block id c) Q E w:=fun a ha=>wp_block (h a ha)
theorem Zy {c:Operand} {x y:Code} {b:Bool} (hc:E.look c=some (.bool b)) (h1:b=true→W P n x Q E w) (h2:b=false→W P n y Q E w):W P n (.cond c x y) Q E w :=
 fun a ha=>wp_cond_split (ha.eval hc) (fun h=>h1 h a ha) (fun h=>h2 h a ha)
theorem ZR {c:Operand} {x y:Code} (hc:E.look c=some (.bool true)) (h:W P n x Q E w):W P n (.cond c x y) Q E w :=
 fun a ha=>wp_cond_true (ha.eval hc) (h a ha)
theorem Zah {c:Operand} {x y:Code} (hc:E.look c=some (.bool false)) (h:W P n y Q E w):W P n (.cond c x y) Q E w :=
 fun a ha=>wp_cond_false (ha.eval hc) (h a ha)
theorem Zw {id:Nat} {l:List Oper} (h:G P n l.toArray (0,[]) l E w (Post n Q .normal)):W P n (.region id l.toArray false) Q E w:=by
 intro a ha
 refine wp_region ?_
 have:=OO (P:=P) (S:=[]) (ops:=l.toArray) (ef:=Am P 0) (rd:=Bi P) (wr:=writes 0) (Q:=Q) (K:=fun a' w'=>∃E',Holds n E' a'∧Post n Q .normal E' w')
  (fun a _ ⟨_,hE,hp⟩=>hp a hE) l.length 0 l a w rfl (by simp) (h a ha)
 simpa [List.range_eq_range'] using this
theorem Zf {id:Nat} {l:List Oper} (k:Nat) (S:List Nat) (c:List Nat) (hm:P.follows .mixedOrders=true)
  (hc:(Region.noSelect l.toArray && okc l.toArray (Am P k) (Bi P) (writes k) c (Array.replicate l.length false) && Nat.beq c.length l.length)=true)
  (h:G P n l.toArray (k,S) (c.map fun i=>l.toArray.getD i default) E w.drew (Post n Q .normal)):W P n (.region id l.toArray true) Q E w:=by
 intro a ha
 simp only [Bool.and_eq_true] at hc
 refine wp_region_any hm (EM (S:=S) (wr:=writes k) (K:=fun a' w'=>∃E',Holds n E' a'∧Post n Q .normal E' w') (fun a _ ⟨_,hE,hp⟩=>hp a hE) _ _ _ _ ?_)
 have hl:c.length=l.length:=by simpa using hc.2
 have:=En (P:=P) hc.1.1 c (Array.replicate l.length false) a { w with drawn:=w.drawn+1 } hc.1.2 (h a ha)
 rw [hl] at this
 simpa using this
def Tm {ι:Type} (n:Nat) (I:ι→Env) (J:ι→World→Prop) (μ:ι→Nat) (y:ι):Act→World→Prop:=fun a' w'=>∃z,Holds n (I z) a'∧J z w'∧μ z<μ y
theorem Zh {ι:Type} {c:Code} (I:ι→Env) (J:ι→World→Prop) (μ:ι→Nat) (x:ι) (hE:Env.sub (I x) E) (hJ:J x w)
  (step:∀y v,J y v→W P n c (Exit.then (Tm n I J μ y) Q) (I y) v) (hD:Env.dks (I x) E:=by exact rfl):W P n (.loop c) Q E w:=by
 intro a ha b k cs
 have key:∀m y a w,μ y=m→Holds n (I y) a→J y w →
   ∃e a' w',Q e a' w'∧Arrives P (lone (b.at a (.code c :: .inLoop c :: k)) cs w) b k cs e a' w':=by
  intro m
  induction m using Nat.strongRecOn with
  | _ m ih =>
   intro y a w hm hI hJ
   obtain ⟨e,a₁,w₁,hq,harr⟩:=step y w hJ a hI b (.inLoop c :: k) cs
   cases e with
   | normal =>
    obtain ⟨z,hz,hjz,hlt⟩:=hq
    obtain ⟨e₂,a₂,w₂,hq₂,harr₂⟩:=ih (μ z) (hm ▸ hlt) z a₁ w₁ rfl hz hjz
    exact ⟨e₂,a₂,w₂,hq₂,.of_steps (Steps.trans harr (.one step_inLoop)) harr₂⟩
   | exit id=>exact ⟨_,a₁,w₁,hq,.pass (x:=.inLoop c) rfl (fun _ _=>.inl (by simp)) harr⟩
   | goto l=>exact ⟨_,a₁,w₁,hq,.pass (x:=.inLoop c) rfl (fun _ _=>.inl (by simp)) harr⟩
   | ret=>exact ⟨_,a₁,w₁,hq,.pass (x:=.inLoop c) rfl (fun _ _=>.inl (by simp)) harr⟩
   | panic ch=>exact ⟨_,a₁,w₁,hq,.pass (x:=.inLoop c) rfl (fun _ _=>.inl (by simp)) harr⟩
   | outgrown=>exact ⟨_,a₁,w₁,hq,.pass (x:=.inLoop c) rfl (fun _ _=>.inl (by simp)) harr⟩
 obtain ⟨e,a',w',hq,harr⟩:=key _ x a w rfl (ha.sub hE hD) hJ
 exact ⟨e,a',w',hq,.of_steps (.one step_loop) harr⟩
theorem Zc {ι:Type} {I:ι→Env} {J:ι→World→Prop} {μ:ι→Nat} {y:ι} (z:ι) (hE:Env.sub (I z) E) (hJ:J z w) (hμ:μ z<μ y) (hD:Env.dks (I z) E:=by exact rfl):Post n (Exit.then (Tm n I J μ y) Q) .normal E w :=
 fun _ ha=>⟨z,ha.sub hE hD,hJ,hμ⟩
theorem Zr {y:Code} (h:W P n y Q E w):Post n (Exit.then (y.wp P Q) Q) .normal E w:=h
theorem Zx {k:Act→World→Prop} (h:Post n Q .ret E w):Post n (Exit.then k Q) .ret E w:=h
theorem ZaA {k:Act→World→Prop} {id:Nat} (h:Post n Q (.exit id) E w):Post n (Exit.then k Q) (.exit id) E w:=h
theorem ZQ {id:Nat} (h:Post n Q .normal E w):Post n (Exit.inBlock id Q) .normal E w:=h
theorem Zaz {id:Nat} (h:Post n Q .ret E w):Post n (Exit.inBlock id Q) .ret E w:=h
theorem Zas {id:Nat} (h:Post n Q .normal E w):Post n (Exit.inBlock id Q) (.exit id) E w:=fun a ha=>by
 simp only [Exit.inBlock,if_true];exact h a ha
theorem Zal {id id':Nat} (hne:Nat.beq id' id=false) (h:Post n Q (.exit id') E w):Post n (Exit.inBlock id Q) (.exit id') E w:=fun a ha=>by
 have:id'≠id:=by rintro rfl;simp at hne
 simp only [Exit.inBlock,this,if_false];exact h a ha
def Ei:Nat→List Value→Env
 | _,[]=>[]
 | k,v :: vs=>(k,v) :: Ei (k+1) vs
theorem FT:∀(vs:List Value) (k t:Nat) (v:Value),(Ei k vs).get t=some v→k≤t∧vs[t - k]?=some v
 | [],k,t,v,h=>by simp [Ei,Env.get] at h
 | u :: vs,k,t,v,h=>by
  rw [Ei,Env.get_cons] at h
  by_cases e:k=t
  ·subst e
   simp only [if_true,Option.some.injEq] at h
   subst h
   simp
  ·simp only [e,if_false] at h
   obtain ⟨h1,h2⟩:=FT vs (k+1) t v h
   refine ⟨by omega,?_⟩
   obtain ⟨m,rfl⟩:∃m,t=k+1+m:=⟨t - (k+1),by omega⟩
   have e1:k+1+m - (k+1)=m:=by omega
   have e2:k+1+m - k=m+1:=by omega
   rw [e1] at h2
   rw [e2]
   simpa using h2
theorem JE {args:List Value} {m:Nat} (hn:(Nat.ble args.length m && Nat.ble m DK)=true):Holds m (Ei 0 args) { tmps:=args.toArray++Array.replicate (m - args.toArray.size) undef,defers:=[] }:=by
 simp only [Bool.and_eq_true] at hn
 have h1:=Nat.le_of_ble_eq_true hn.1
 have h2:=Nat.le_of_ble_eq_true hn.2
 have hdk:(Ei 0 args).get DK=none:=by
  cases h:(Ei 0 args).get DK with
  | none=>rfl
  | some v =>
   have:=(FT args 0 DK v h).2
   have:=(List.getElem?_eq_some_iff.1 this).1
   omega
 refine ⟨by simp only [Env.dfr,hdk],by simp;omega,h2,fun v hv=>(by rw [hdk] at hv;cases hv),fun t v ht=>.inr ?_⟩
 obtain ⟨_,h2⟩:=FT args 0 t v ht
 simp only [Nat.sub_zero] at h2
 have hlt:t<args.length:=by
  rcases Nat.lt_or_ge t args.length with h|h
  ·exact h
  ·rw [List.getElem?_eq_none h] at h2;cases h2
 rw [Array.getElem?_append_left (by simpa using hlt)]
 simpa using h2
theorem Ac {f:FuncId} {fn:Func} {c:Code} {args:List Value} {Φ:Value→World→Prop} {m:Nat} (hf:P.funcs[f]?=some fn) (hm:fn.ntmps=m) (hb:fn.body=some c)
  (hname : (fn.name == "runtime.NumGoroutine") = false) (hn : (Nat.ble args.length m && Nat.ble m DK) = true) (h : W P m c (bodyPost P fn (Ret Φ)) (Ei 0 args) w) : Ctr P f args w Φ := by
 refine ⟨⟨fn,hf,by simpa using hname,by simp [hb]⟩,?_⟩
 subst hm
 exact calls_of_wp hf hb (h _ (JE hn))
def DI (P:Program) (E:Env) (w:World):List ResultVar→List Value→Prop
 | [],vs=>vs=[]
 | .tmp t :: rs,vs=>∃v us,vs=v :: us∧E.look (.tmp t)=some v∧DI P E w rs us
 | .cell a t :: rs,vs=>∃v us p,vs=v :: us∧E.look (.tmp a)=some (.pointer (some p))∧(loadVar t p).run P w=.ok v w∧DI P E w rs us
def Cj:List Value→Value
 | [v]=>v
 | vs=>.tuple vs.toArray
def MW (tmps:Array Value):ResultVar→Sem Value
 | .tmp t=>pure (tmps.getD t undef)
 | .cell x t=>asAddr (tmps.getD x undef) >>= loadVar t
theorem PX (fn:Func) (tmps:Array Value):results fn tmps=(fn.results.mapM (MW tmps) >>= fun vs=>pure (if h:vs.size=1 then vs[0] else .tuple vs)):=by
 rfl
theorem DI.run {a:Act} (ha:Holds n E a):∀{rs:List ResultVar} {vs:List Value},DI P E w rs vs→(rs.mapM (MW a.tmps):Sem (List Value)).run P w=.ok vs w
 | [],vs,h=>by simp only [DI] at h;subst h;rfl
 | .tmp t :: rs,vs,h=>by
  obtain ⟨v,us,rfl,h1,h2⟩:=h
  have e:a.tmps.getD t undef=v:=by have:=ha.eval h1;simpa [Act.eval] using this
  simp only [List.mapM_cons,Sem.run_bind,MW,e,Sem.run_pure,Result.andThen_ok,DI.run ha h2]
 | .cell x t :: rs,vs,h=>by
  obtain ⟨v,us,p,rfl,h1,h2,h3⟩:=h
  have e:a.tmps.getD x undef=.pointer (some p):=by have:=ha.eval h1;simpa [Act.eval] using this
  have e2:asAddr (.pointer (some p))=pure p:=rfl
  simp only [List.mapM_cons,Sem.run_bind,MW,e,e2,Sem.run_pure,Result.andThen_ok,h2,DI.run ha h3]
theorem DI.res {a:Act} (ha:Holds n E a) {fn:Func} {rs:List ResultVar} {vs:List Value} (hr:fn.results=rs.toArray) (h:DI P E w rs vs):(results fn a.tmps).run P w=.ok (Cj vs) w:=by
 have:=DI.run (P:=P) (w:=w) ha h
 simp only [PX,hr,List.mapM_toArray,Sem.run_bind,Sem.run_map,this,Result.andThen_ok,Sem.run_pure]
 cases vs with
 | nil=>rfl
 | cons v us=>cases us with
  | nil=>rfl
  | cons u us=>simp [Cj]
theorem Ze {fn:Func} {rs:List ResultVar} {vs:List Value} {Φ:Value→World→Prop} (hr:fn.results=rs.toArray) (h:DI P E w rs vs) (hΦ:Φ (Cj vs) w) (hD:E.dfr=[]:=by exact rfl):Post n (bodyPost P fn (Ret Φ)) .ret E w:=by
 intro a ha
 exact ⟨ha.defers.trans hD,Cj vs,h.res ha hr,_,rfl,hΦ⟩
theorem Kr {P:Program} {n:Nat} {E:Env} {w:World} {fn:Func} {rs:List ResultVar} {vs:List Value} {Φ:Value→World→Prop} (hr:fn.results=rs.toArray) (hΦ:Φ (Cj vs) w) (h:DI P E w rs vs:=by first|exact ⟨_,_,rfl,rfl,rfl⟩|exact ⟨_,_,rfl,rfl,_,_,rfl,rfl,rfl⟩|exact ⟨_,_,rfl,rfl,_,_,rfl,rfl,_,_,rfl,rfl,rfl⟩) (hD:E.dfr=[]:=by exact rfl):Post n (bodyPost P fn (Ret Φ)) .ret E w:=Ze hr h hΦ hD
theorem Zk {fn:Func} {rs:List ResultVar} {vs:List Value} {Φ:Value→World→Prop} (hr:fn.results=rs.toArray) (h:DI P E w rs vs) (hΦ:Φ (Cj vs) w) (hD:E.dfr=[]:=by exact rfl):Post n (bodyPost P fn (Ret Φ)) .normal E w :=
 Ze hr h hΦ hD
theorem Zn {c:Code} (E':Env) (hs:Env.sub E' E) (h:W P n c Q E' w) (hD:Env.dks E' E:=by exact rfl):W P n c Q E w:=fun a ha=>h a (ha.sub hs hD)
theorem Za {c:Operand} {x y:Code} {p:Prop} {inst:Decidable p} (hc:E.look c=some (.bool (@decide p inst))) (h1:p→W P n x Q E w) (h2:¬p→W P n y Q E w):W P n (.cond c x y) Q E w :=
 Zy hc (fun h=>h1 (of_decide_eq_true h)) (fun h=>h2 (of_decide_eq_false h))
theorem Zb {o:Oper} {t:Nat} {p:Prop} {inst:Decidable p} (ht:WX ops o.guard=some t) (hb:E.get t=some (.bool (@decide p inst)))
  (h1:p→G P n ops dr (o :: l) ((t,.bool true) :: E) w K) (h2:¬p→G P n ops dr (o :: l) ((t,.bool false) :: E) w K):G P n ops dr (o :: l) E w K :=
 ZW ht hb (fun h=>h1 (of_decide_eq_true h)) (fun h=>h2 (of_decide_eq_false h))
attribute [irreducible] G G1 W Post Ctr Tm
def Ao (P:Program) (t:TypeId) (k:IntKind):Prop:=P.underlying t=some (.int k)
def Ab (P:Program) (t e sz by_:Nat):Prop :=
 P.underlying t=some (.slice e)∧∃i z,P.info? e=some i∧i.size=sz∧i.bytes=by_∧i.zero=some z∧z.cells.size=sz
def PlainT (P:Program) (t:TypeId):Prop:=∀w,(isAgg t).run P w=.ok false w
def Ak (P:Program) (t sz:Nat):Prop:=(∀w,(isAgg t).run P w=.ok true w)∧∃i,P.info? t=some i∧i.size=sz
def Ad (P:Program) (t sz:Nat):Prop:=∃i,P.info? t=some i∧i.size=sz
def Ap (P:Program) (t:TypeId):Prop:=P.underlying t=some .string
def Aa (P:Program) (t k off:Nat):Prop:=∃fs f,P.underlying t=some (.struct fs)∧fs[k]?=some f∧f.offset=off∧∃i,P.info? f.type=some i∧i.size≠0
theorem Ab.of {P:Program} {t e sz by_:Nat} (h1:P.underlying t=some (.slice e)) (h2:(P.info? e).map (fun i=>(i.size,i.bytes,i.zero.map (·.cells.size)))=some (sz,by_,some sz)):Ab P t e sz by_:=by
 refine ⟨h1,?_⟩
 cases hi:P.info? e with
 | none=>simp [hi] at h2
 | some i =>
  simp only [hi,Option.map_some,Option.some.injEq,Prod.mk.injEq] at h2
  obtain ⟨a,b,c⟩:=h2
  cases hz:i.zero with
  | none=>simp [hz] at c
  | some z=>simp only [hz,Option.map_some,Option.some.injEq] at c;exact ⟨i,z,rfl,a,b,hz,c⟩
theorem PlainT.of {P:Program} {t:TypeId} {d:TypeDesc} (h:P.underlying t=some d) (hd:(match d with | .struct _=>false | .array _ _=>false|_=>true)=true):PlainT P t:=by
 intro w
 unfold isAgg
 simp only [Sem.run_bind,run_underlying h,Result.andThen_ok]
 cases d <;> simp_all
theorem Ak.of {P:Program} {t sz:Nat} {d:TypeDesc} (h:P.underlying t=some d) (hd:(match d with | .struct _=>true | .array _ _=>true|_=>false)=true) (hs:(P.info? t).map (·.size)=some sz):Ak P t sz:=by
 refine ⟨fun w=>?_,?_⟩
 ·unfold isAgg
  simp only [Sem.run_bind,run_underlying h,Result.andThen_ok]
  cases d <;> simp_all
 ·cases hi:P.info? t with
  | none=>simp [hi] at hs
  | some i=>exact ⟨i,by first|rfl|exact hi,by simpa [hi] using hs⟩
theorem Ad.of {P:Program} {t sz:Nat} (hs:(P.info? t).map (·.size)=some sz):Ad P t sz:=by
 cases hi:P.info? t with
 | none=>simp [hi] at hs
 | some i=>exact ⟨i,by first|rfl|exact hi,by simpa [hi] using hs⟩
def Qz (P:Program) (t k:Nat):Option (Nat × Bool) :=
 match P.underlying t with
 | some (.struct fs)=>match fs[k]? with
  | some f=>match P.info? f.type with
   | some i=>some (f.offset,i.size != 0)
   | none=>none
  | none=>none
 | _=>none
theorem Aa.of {P:Program} {t k off:Nat} (h:Qz P t k=some (off,true)):Aa P t k off:=by
 unfold Qz at h
 split at h
 ·rename_i fs h1
  split at h
  ·rename_i f h2
   split at h
   ·rename_i i h3
    simp at h
    exact ⟨fs,f,h1,h2,h.1,i,h3,h.2⟩
   ·simp at h
  ·simp at h
 ·simp at h
def blt (s t:ByteArray):Bool:=Op.bytesLess s.data.toList t.data.toList
def BA (s:ByteArray) (i:Nat):UInt8:=s.data.getD i 0
theorem toList_data (s:ByteArray):s.toList=s.data.toList:=by simp [ByteArray.toList_eq]
theorem str_eq (s t:ByteArray):(s.toList == t.toList)=decide (s=t):=by
 rw [Bool.eq_iff_iff]
 simp only [toList_data,beq_iff_eq,decide_eq_true_eq]
 constructor
 ·intro h;cases s;cases t;simp_all
 ·rintro rfl;rfl
theorem Ep:∀l:List UInt8,Op.bytesLess l l=false
 | []=>rfl
 | a :: l=>by simp [Op.bytesLess,Ep l]
theorem EQ:∀{a b c:List UInt8},Op.bytesLess a b=true→Op.bytesLess b c=true→Op.bytesLess a c=true
 | _,[],_,h,_=>by simp [Op.bytesLess] at h
 | _,_ :: _,[],_,h=>by simp [Op.bytesLess] at h
 | [],_ :: _,_ :: _,_,_=>by simp [Op.bytesLess]
 | x :: a,y :: b,z :: c,h,k=>by
  simp only [Op.bytesLess,Bool.or_eq_true,decide_eq_true_eq,Bool.and_eq_true,beq_iff_eq] at h k ⊢
  rcases h with h|⟨rfl,h⟩
  ·rcases k with k|⟨rfl,k⟩
   ·exact .inl (UInt8.lt_trans h k)
   ·exact .inl h
  ·rcases k with k|⟨rfl,k⟩
   ·exact .inl k
   ·exact .inr ⟨rfl,EQ h k⟩
theorem EP:∀(a b:List UInt8),Op.bytesLess a b=true∨a=b∨Op.bytesLess b a=true
 | [],[]=>.inr (.inl rfl)
 | [],_ :: _=>.inl rfl
 | _ :: _,[]=>.inr (.inr rfl)
 | x :: a,y :: b=>by
  simp only [Op.bytesLess,Bool.or_eq_true,decide_eq_true_eq,Bool.and_eq_true,beq_iff_eq,List.cons.injEq]
  by_cases h1:x<y
  ·exact .inl (.inl h1)
  ·by_cases h2:y<x
   ·exact .inr (.inr (.inl h2))
   ·have:x=y:=by
     apply UInt8.toNat_inj.1
     have h1':¬x.toNat<y.toNat:=h1
     have h2':¬y.toNat<x.toNat:=h2
     omega
    subst this
    rcases EP a b with h|h|h
    ·exact .inl (.inr ⟨rfl,h⟩)
    ·exact .inr (.inl ⟨rfl,h⟩)
    ·exact .inr (.inr (.inr ⟨rfl,h⟩))
theorem CY (s:ByteArray):blt s s=false:=Ep _
theorem Eo {a b c:ByteArray} (h:blt a b=true) (k:blt b c=true):blt a c=true:=EQ h k
theorem Lm (a b:ByteArray):blt a b=true∨a=b∨blt b a=true:=by
 rcases EP a.data.toList b.data.toList with h|h|h
 ·exact .inl h
 ·refine .inr (.inl ?_);cases a;cases b;simp_all
 ·exact .inr (.inr h)
theorem Ll {a b:ByteArray} (h:blt a b=true):blt b a=false:=by
 cases hb:blt b a with
 | false=>rfl
 | true=>have:=Eo h hb;rw [CY] at this;cases this
def adr (p:Option Addr) (k:Nat):Addr:=match p with
 | some a=>⟨a.block,a.off+k,none⟩
 | none=>⟨0,k,none⟩
theorem Gh (p:Option Addr) (k m:Nat):(adr p k).add m=adr p (k+m):=by
 cases p <;> simp [adr,Addr.add,Nat.add_assoc] <;> (intro h;simp [h])
theorem addr_add (b o k:Nat):(⟨b,o,none⟩:Addr).add k=⟨b,o+k,none⟩:=by
 unfold Addr.add;split <;> simp_all
theorem wrap_i64 {n:Int} (h1:-9223372036854775808≤n) (h2:n≤9223372036854775807):IntKind.i64.wrap n=n:=IntWalk.i64_in n ⟨h1,h2⟩
theorem wrap_u8 {n:Int} (h1:0≤n) (h2:n≤255):IntKind.u8.wrap n=n:=IntWalk.u8_in n ⟨h1,h2⟩
theorem wrap_u64 {n:Int} (h1:0≤n) (h2:n≤18446744073709551615):IntKind.u64.wrap n=n:=IntWalk.u64_in n ⟨h1,h2⟩
variable {d : Option Nat} {ty : TypeId} {pos : String} {af : Array Edge} {g : Option (Nat × Bool)} {x y c : Operand} {k k' k2 : IntKind} {i j m : Int} {t t' t2 : TypeId} {v v2 : Value}
theorem ZG (hx:E.look x=some v) (hd:Ah n d=true) (h:G P n ops dr l (E.put d v) w K):G1 P n ops dr ⟨d,.move x,ty,pos,af,g⟩ l E w K :=
 Zd v hd (fun a ha w' _=>by simp [execOp,ha.eval hx]) h
theorem Q19 (h:G P n ops dr l (E.put d v) w K) (hx:E.look x=some v:=by exact rfl) (hd:Ah n d=true:=by exact rfl):G1 P n ops dr ⟨d,.move x,ty,pos,af,g⟩ l E w K:=ZG hx hd h
theorem Zt (hx:E.look x=some v) (hd:Ah n d=true) (h:G P n ops dr l (E.put d v) w K):G1 P n ops dr ⟨d,.assign x,ty,pos,af,g⟩ l E w K :=
 Zd v hd (fun a ha w' _=>by simp [execOp,ha.eval hx]) h
theorem Q39 (h:G P n ops dr l (E.put d v) w K) (hx:E.look x=some v:=by exact rfl) (hd:Ah n d=true:=by exact rfl):G1 P n ops dr ⟨d,.assign x,ty,pos,af,g⟩ l E w K:=Zt hx hd h
theorem Zak (hc:E.look c=some (.bool true)) (hx:E.look x=some v) (hd:Ah n d=true) (h:G P n ops dr l (E.put d v) w K):G1 P n ops dr ⟨d,.pick c x y,ty,pos,af,g⟩ l E w K :=
 Zd v hd (fun a ha w' _=>by simp [execOp,ha.eval hx,ha.eval hc,asBool]) h
theorem ZL (hc:E.look c=some (.bool false)) (hx:E.look y=some v) (hd:Ah n d=true) (h:G P n ops dr l (E.put d v) w K):G1 P n ops dr ⟨d,.pick c x y,ty,pos,af,g⟩ l E w K :=
 Zd v hd (fun a ha w' _=>by simp [execOp,ha.eval hx,ha.eval hc,asBool]) h
theorem Xf (hx:E.look x=some (.int k i)) (hy:E.look y=some (.int k j)) (hd:Ah n d=true) (h:G P n ops dr l (E.put d (.bool (decide (i=j)))) w K):G1 P n ops dr ⟨d,.binOp .eql t x y t',ty,pos,af,g⟩ l E w K :=
 Zd _ hd (fun a ha w' _=>by simp [execOp,ha.eval hx,ha.eval hy,eqGuard,binOp,Op.intCmp];rfl) h
theorem Zaj (hx:E.look x=some (.int k i)) (hy:E.look y=some (.int k j)) (hd:Ah n d=true) (h:G P n ops dr l (E.put d (.bool (decide (¬i=j)))) w K):G1 P n ops dr ⟨d,.binOp .neq t x y t',ty,pos,af,g⟩ l E w K :=
 Zd _ hd (fun a ha w' _=>by simp [execOp,ha.eval hx,ha.eval hy,eqGuard,binOp,Op.intCmp];rfl) h
theorem Zaw (hx:E.look x=some (.int k i)) (hy:E.look y=some (.int k j)) (hd:Ah n d=true) (h:G P n ops dr l (E.put d (.bool (decide (i<j)))) w K):G1 P n ops dr ⟨d,.binOp .lss t x y t',ty,pos,af,g⟩ l E w K :=
 Zd _ hd (fun a ha w' _=>by simp [execOp,ha.eval hx,ha.eval hy,eqGuard,binOp,Op.intCmp]) h
theorem Zba (hx:E.look x=some (.int k i)) (hy:E.look y=some (.int k j)) (hd:Ah n d=true) (h:G P n ops dr l (E.put d (.bool (decide (i≤j)))) w K):G1 P n ops dr ⟨d,.binOp .leq t x y t',ty,pos,af,g⟩ l E w K :=
 Zd _ hd (fun a ha w' _=>by simp [execOp,ha.eval hx,ha.eval hy,eqGuard,binOp,Op.intCmp]) h
theorem Q108 (hx:E.look x=some (.int k i)) (hy:E.look y=some (.int k j)) (hd:Ah n d=true) (h:G P n ops dr l (E.put d (.bool (decide (i≤j)))) w K):G1 P n ops dr ⟨d,.binOp .leq t x y t',ty,pos,af,g⟩ l E w K:=Zba hx hy hd h
theorem ZaN (hx:E.look x=some (.int k i)) (hy:E.look y=some (.int k j)) (hd:Ah n d=true) (h:G P n ops dr l (E.put d (.bool (decide (j<i)))) w K):G1 P n ops dr ⟨d,.binOp .gtr t x y t',ty,pos,af,g⟩ l E w K :=
 Zd _ hd (fun a ha w' _=>by simp [execOp,ha.eval hx,ha.eval hy,eqGuard,binOp,Op.intCmp]) h
theorem ZaM (hx:E.look x=some (.int k i)) (hy:E.look y=some (.int k j)) (hd:Ah n d=true) (h:G P n ops dr l (E.put d (.bool (decide (j≤i)))) w K):G1 P n ops dr ⟨d,.binOp .geq t x y t',ty,pos,af,g⟩ l E w K :=
 Zd _ hd (fun a ha w' _=>by simp [execOp,ha.eval hx,ha.eval hy,eqGuard,binOp,Op.intCmp]) h
theorem ZaL (hx:E.look x=some (.int .i64 i)) (hy:E.look y=some (.int .i64 j)) (h1:-9223372036854775808≤i+j) (h2:i+j≤9223372036854775807) (hd:Ah n d=true)
  (h:G P n ops dr l (E.put d (.int .i64 (i+j))) w K):G1 P n ops dr ⟨d,.binOp .add t x y t',ty,pos,af,g⟩ l E w K :=
 Zd _ hd (fun a ha w' _=>by simp [execOp,ha.eval hx,ha.eval hy,eqGuard,binOp,Op.intArith,wrap_i64 h1 h2]) h
theorem Q52 (h:G P n ops dr l (E.put d (.int .i64 (i+j))) w K) (hx:E.look x=some (.int .i64 i):=by exact rfl) (hy:E.look y=some (.int .i64 j):=by exact rfl) (h1:-9223372036854775808≤i+j:=by omega) (h2:i+j≤9223372036854775807:=by omega) (hd:Ah n d=true:=by exact rfl):G1 P n ops dr ⟨d,.binOp .add t x y t',ty,pos,af,g⟩ l E w K:=ZaL hx hy h1 h2 hd h
theorem Xk (hx:E.look x=some (.int .i64 i)) (hy:E.look y=some (.int .i64 j)) (h1:-9223372036854775808≤i - j) (h2:i - j≤9223372036854775807) (hd:Ah n d=true)
  (h:G P n ops dr l (E.put d (.int .i64 (i - j))) w K):G1 P n ops dr ⟨d,.binOp .sub t x y t',ty,pos,af,g⟩ l E w K :=
 Zd _ hd (fun a ha w' _=>by simp [execOp,ha.eval hx,ha.eval hy,eqGuard,binOp,Op.intArith,wrap_i64 h1 h2]) h
theorem Xh (hx:E.look x=some (.int .i64 i)) (hy:E.look y=some (.int .i64 j)) (h1:-9223372036854775808≤i * j) (h2:i * j≤9223372036854775807) (hd:Ah n d=true)
  (h:G P n ops dr l (E.put d (.int .i64 (i * j))) w K):G1 P n ops dr ⟨d,.binOp .mul t x y t',ty,pos,af,g⟩ l E w K :=
 Zd _ hd (fun a ha w' _=>by simp [execOp,ha.eval hx,ha.eval hy,eqGuard,binOp,Op.intArith,wrap_i64 h1 h2]) h
theorem ZaR (hx:E.look x=some (.int k i)) (hy:E.look y=some (.int k j)) (hd:Ah n d=true)
  (h:G P n ops dr l (E.put d (.int k (k.wrap (i+j)))) w K):G1 P n ops dr ⟨d,.binOp .add t x y t',ty,pos,af,g⟩ l E w K :=
 Zd _ hd (fun a ha w' _=>by simp [execOp,ha.eval hx,ha.eval hy,eqGuard,binOp,Op.intArith]) h
theorem Q67 (h:G P n ops dr l (E.put d (.int k (k.wrap (i+j)))) w K) (hx:E.look x=some (.int k i):=by exact rfl) (hy:E.look y=some (.int k j):=by exact rfl) (hd:Ah n d=true:=by exact rfl):G1 P n ops dr ⟨d,.binOp .add t x y t',ty,pos,af,g⟩ l E w K:=ZaR hx hy hd h
theorem ZaH (hx:E.look x=some (.int k i)) (hy:E.look y=some (.int k j)) (hd:Ah n d=true)
  (h:G P n ops dr l (E.put d (.int k (k.wrap (i - j)))) w K):G1 P n ops dr ⟨d,.binOp .sub t x y t',ty,pos,af,g⟩ l E w K :=
 Zd _ hd (fun a ha w' _=>by simp [execOp,ha.eval hx,ha.eval hy,eqGuard,binOp,Op.intArith]) h
theorem Q93 (h:G P n ops dr l (E.put d (.int k (k.wrap (i - j)))) w K) (hx:E.look x=some (.int k i):=by exact rfl) (hy:E.look y=some (.int k j):=by exact rfl) (hd:Ah n d=true:=by exact rfl):G1 P n ops dr ⟨d,.binOp .sub t x y t',ty,pos,af,g⟩ l E w K:=ZaH hx hy hd h
theorem ZaS (hx:E.look x=some (.int k i)) (hy:E.look y=some (.int k j)) (hd:Ah n d=true)
  (h:G P n ops dr l (E.put d (.int k (k.wrap (i * j)))) w K):G1 P n ops dr ⟨d,.binOp .mul t x y t',ty,pos,af,g⟩ l E w K :=
 Zd _ hd (fun a ha w' _=>by simp [execOp,ha.eval hx,ha.eval hy,eqGuard,binOp,Op.intArith]) h
theorem Q81 (h:G P n ops dr l (E.put d (.int k (k.wrap (i * j)))) w K) (hx:E.look x=some (.int k i):=by exact rfl) (hy:E.look y=some (.int k j):=by exact rfl) (hd:Ah n d=true:=by exact rfl):G1 P n ops dr ⟨d,.binOp .mul t x y t',ty,pos,af,g⟩ l E w K:=ZaS hx hy hd h
theorem ZaP (hx:E.look x=some (.int k i)) (hy:E.look y=some (.int k j)) (h0:j≠0) (hd:Ah n d=true)
  (h:G P n ops dr l (E.put d (.int k (k.wrap (i.tdiv j)))) w K):G1 P n ops dr ⟨d,.binOp .quo t x y t',ty,pos,af,g⟩ l E w K :=
 Zd _ hd (fun a ha w' _=>by simp [execOp,ha.eval hx,ha.eval hy,eqGuard,binOp,Op.intDiv,h0]) h
theorem Zbc (hx:E.look x=some (.int k i)) (hy:E.look y=some (.int k j)) (h0:j≠0) (hd:Ah n d=true)
  (h:G P n ops dr l (E.put d (.int k (i.tmod j))) w K):G1 P n ops dr ⟨d,.binOp .rem t x y t',ty,pos,af,g⟩ l E w K :=
 Zd _ hd (fun a ha w' _=>by simp [execOp,ha.eval hx,ha.eval hy,eqGuard,binOp,Op.intDiv,h0]) h
theorem Zbd (hx:E.look x=some (.int k i)) (hy:E.look y=some (.int k' j)) (h0:0≤j) (hd:Ah n d=true)
  (h:G P n ops dr l (E.put d (.int k (i.fdiv (2 ^ min j.toNat k.bits)))) w K):G1 P n ops dr ⟨d,.binOp .shr t x y t',ty,pos,af,g⟩ l E w K :=
 Zd _ hd (fun a ha w' _=>by simp [execOp,ha.eval hx,ha.eval hy,eqGuard,binOp,Op.shift,Int.not_lt.2 h0]) h
theorem Q56 (h:G P n ops dr l (E.put d (.int k (i.fdiv (2 ^ min j.toNat k.bits)))) w K) (hx:E.look x=some (.int k i):=by exact rfl) (hy:E.look y=some (.int k' j):=by exact rfl) (h0:0≤j:=by decide) (hd:Ah n d=true:=by exact rfl):G1 P n ops dr ⟨d,.binOp .shr t x y t',ty,pos,af,g⟩ l E w K:=Zbd hx hy h0 hd h
theorem Xi (hx:E.look x=some (.int k i)) (hd:Ah n d=true) (h:G P n ops dr l (E.put d (.int k (k.wrap (0 - i)))) w K):G1 P n ops dr ⟨d,.unOp .neg t x,ty,pos,af,g⟩ l E w K :=
 Zd _ hd (fun a ha w' _=>by simp [execOp,ha.eval hx,Op.unary,Op.intArith]) h
theorem Xg (hx:E.look x=some (.int k i)) (hy:E.look y=some (.int k j)) (hd:Ah n d=true) (h:G P n ops dr l (E.put d (.int k (min i j))) w K):G1 P n ops dr ⟨d,.call ⟨.builtin .min,#[x,y],#[t,t']⟩,ty,pos,af,g⟩ l E w K :=
 Zd _ hd (fun a ha w' _=>by
  have:min i j=if j<i then j else i:=by split <;> omega
  simp [execOp,resolve,invoke,builtin,Builtin.min_,ha.eval hx,ha.eval hy,Builtin.min2,this]) h
theorem Zab (hx:E.look x=some (.int k i)) (hs:Ao P t k2) (ht:Ao P t' k') (hd:Ah n d=true) (h:G P n ops dr l (E.put d (.int k' (k'.wrap i))) w K):G1 P n ops dr ⟨d,.convert t t' x,ty,pos,af,g⟩ l E w K :=
 Zd _ hd (fun a ha w' _=>by simp [execOp,convert,ha.eval hx,run_underlying (P:=P) hs,run_underlying (P:=P) ht,Conv.intToInt]) h
theorem Q47 (hs:Ao P t k2) (ht:Ao P t' k') (h:G P n ops dr l (E.put d (.int k' (k'.wrap i))) w K) (hx:E.look x=some (.int k i):=by exact rfl) (hd:Ah n d=true:=by exact rfl):G1 P n ops dr ⟨d,.convert t t' x,ty,pos,af,g⟩ l E w K:=Zab hx hs ht hd h
theorem ZaO {p:Prop} {inst:Decidable p} (hx:E.look x=some (.bool (@decide p inst))) (hd:Ah n d=true) (h:G P n ops dr l (E.put d (.bool (decide (¬p)))) w K):G1 P n ops dr ⟨d,.unOp .not t x,ty,pos,af,g⟩ l E w K :=
 Zd _ hd (fun a ha w' _=>by simp [execOp,ha.eval hx,Op.unary]) h
theorem Zaf (hx:E.look x=some (.bool true)) (hd:Ah n d=true) (h:G P n ops dr l (E.put d (.bool false)) w K):G1 P n ops dr ⟨d,.unOp .not t x,ty,pos,af,g⟩ l E w K :=
 Zd _ hd (fun a ha w' _=>by simp [execOp,ha.eval hx,Op.unary]) h
theorem ZaK (hx:E.look x=some (.bool false)) (hd:Ah n d=true) (h:G P n ops dr l (E.put d (.bool true)) w K):G1 P n ops dr ⟨d,.unOp .not t x,ty,pos,af,g⟩ l E w K :=
 Zd _ hd (fun a ha w' _=>by simp [execOp,ha.eval hx,Op.unary]) h
theorem Xj {b:Bool} (hx:E.look x=some (.bool b)) (hd:Ah n d=true) (h:G P n ops dr l (E.put d (.bool (!b))) w K):G1 P n ops dr ⟨d,.unOp .not t x,ty,pos,af,g⟩ l E w K :=
 Zd _ hd (fun a ha w' _=>by simp [execOp,ha.eval hx,Op.unary]) h
theorem ZC {s u:ByteArray} (hx:E.look x=some (.string s)) (hy:E.look y=some (.string u)) (hd:Ah n d=true) (h:G P n ops dr l (E.put d (.bool (decide (s=u)))) w K):G1 P n ops dr ⟨d,.binOp .eql t x y t',ty,pos,af,g⟩ l E w K :=
 Zd _ hd (fun a ha w' _=>by simp only [execOp,ha.eval hx,ha.eval hy,eqGuard,binOp,Op.stringOp,str_eq];rfl) h
theorem Zag {s u:ByteArray} (hx:E.look x=some (.string s)) (hy:E.look y=some (.string u)) (hd:Ah n d=true) (h:G P n ops dr l (E.put d (.bool (decide (¬s=u)))) w K):G1 P n ops dr ⟨d,.binOp .neq t x y t',ty,pos,af,g⟩ l E w K :=
 Zd _ hd (fun a ha w' _=>by simp only [execOp,ha.eval hx,ha.eval hy,eqGuard,binOp,Op.stringOp,str_eq,decide_not];rfl) h
theorem Zbj {s u:ByteArray} (hx:E.look x=some (.string s)) (hy:E.look y=some (.string u)) (hd:Ah n d=true) (h:G P n ops dr l (E.put d (.bool (!(blt s u)))) w K):G1 P n ops dr ⟨d,.binOp .geq t x y t',ty,pos,af,g⟩ l E w K :=
 Zd _ hd (fun a ha w' _=>by simp only [execOp,ha.eval hx,ha.eval hy,eqGuard,binOp,Op.stringOp,toList_data];rfl) h
theorem ZaT {s u : ByteArray} (hx : E.look x = some (.string s)) (hy : E.look y = some (.string u)) (hl : s.size + u.size ≤ 9223372036854775807) (hd : Ah n d = true) (h : G P n ops dr l (E.put d (.string (s ++ u))) w K) : G1 P n ops dr ⟨d, .binOp .add t x y t', ty, pos, af, g⟩ l E w K :=
  Zd _ hd (fun a ha w' _ => by
    have : ¬ ((s.size + u.size : Nat) : Int) > IntKind.i64.max := by have e : IntKind.i64.max = 9223372036854775807 := by decide
                                                                     rw [e]; omega
    simp only [execOp, ha.eval hx, ha.eval hy, eqGuard, binOp, Op.stringOp, this, if_false]; rfl) h
theorem ZaU {s:ByteArray} (hu:Ap P t) (hx:E.look x=some (.string s)) (hd:Ah n d=true) (h:G P n ops dr l (E.put d (.int .i64 s.size)) w K):G1 P n ops dr ⟨d,.call ⟨.builtin .len,#[x],#[t]⟩,ty,pos,af,g⟩ l E w K :=
 Zd _ hd (fun a ha w' _=>by simp [execOp,resolve,invoke,builtin,Builtin.len_,ha.eval hx,run_underlying (P:=P) hu,goInt]) h
theorem Q17 {s:ByteArray} (hu:Ap P t) (h:G P n ops dr l (E.put d (.int .i64 s.size)) w K) (hx:E.look x=some (.string s):=by exact rfl) (hd:Ah n d=true:=by exact rfl):G1 P n ops dr ⟨d,.call ⟨.builtin .len,#[x],#[t]⟩,ty,pos,af,g⟩ l E w K:=ZaU hu hx hd h
theorem ZaD {s:ByteArray} (hu:Ap P t) (hx:E.look x=some (.string s)) (hy:E.look y=some (.int k i)) (h0:0≤i) (h1:i<s.size) (hd:Ah n d=true)
  (h:G P n ops dr l (E.put d (.int .u8 (BA s i.toNat).toNat)) w K):G1 P n ops dr ⟨d,.index t x y,ty,pos,af,g⟩ l E w K :=
 Zd _ hd (fun a ha w' _=>by
  have hlt:i.toNat<s.size:=by omega
  have e:s[i.toNat]?=some (BA s i.toNat):=by
   rw [getElem?_pos s i.toNat hlt]
   have hlt':i.toNat<s.data.size:=hlt
   simp only [BA,Array.getD,hlt',dite_true];rfl
  simp [execOp,Instr.index,ha.eval hx,ha.eval hy,asIntOf,run_underlying (P:=P) hu,h0,e]) h
theorem Q91 {s:ByteArray} (hu:Ap P t) (h:G P n ops dr l (E.put d (.int .u8 (BA s i.toNat).toNat)) w K) (hx:E.look x=some (.string s):=by exact rfl) (hy:E.look y=some (.int k i):=by exact rfl) (h0:0≤i:=by omega) (h1:i<s.size:=by omega) (hd:Ah n d=true:=by exact rfl):G1 P n ops dr ⟨d,.index t x y,ty,pos,af,g⟩ l E w K:=ZaD hu hx hy h0 h1 hd h
theorem ZD {vs:Array Value} {q:Nat} (hx:E.look x=some (.tuple vs)) (hv:vs[q]?=some v) (hd:Ah n d=true) (h:G P n ops dr l (E.put d v) w K):G1 P n ops dr ⟨d,.extract x q,ty,pos,af,g⟩ l E w K :=
 Zd _ hd (fun a ha w' _=>by simp [execOp,Instr.extract,ha.eval hx,hv]) h
theorem Q33 {vs:Array Value} {q:Nat} (h:G P n ops dr l (E.put d v) w K) (hx:E.look x=some (.tuple vs):=by exact rfl) (hv:vs[q]?=some v:=by exact rfl) (hd:Ah n d=true:=by exact rfl):G1 P n ops dr ⟨d,.extract x q,ty,pos,af,g⟩ l E w K:=ZD hx hv hd h
theorem ZaI {fn:Fn} {cs:Array Operand} {vs:List Value} (hx:E.looks cs.toList=some vs) (hd:Ah n d=true) (h:G P n ops dr l (E.put d (.func fn #[] vs.toArray)) w K):G1 P n ops dr ⟨d,.makeFunc fn #[] cs,ty,pos,af,g⟩ l E w K :=
 Zd _ hd (fun a ha w' _=>by
  have hm:cs.map a.eval=vs.toArray:=by rw [← ha.evals hx];apply Array.ext';simp
  simp [execOp,Instr.makeFunc,hm]) h
theorem ZA {a:Addr} (hx:E.look x=some (.pointer (some a))) (hd:Ah n d=true) (h:G P n ops dr l (E.put d (.pointer (some a))) w K):G1 P n ops dr ⟨d,.nilCheck x,ty,pos,af,g⟩ l E w K :=
 Zd _ hd (fun a ha w' _=>by simp [execOp,ha.eval hx]) h
theorem Q21 {a:Addr} (h:G P n ops dr l (E.put d (.pointer (some a))) w K) (hx:E.look x=some (.pointer (some a)):=by exact rfl) (hd:Ah n d=true:=by exact rfl):G1 P n ops dr ⟨d,.nilCheck x,ty,pos,af,g⟩ l E w K:=ZA hx hd h
theorem Zbl {fn:FuncId} {q r:Array Value} (hx:E.look x=some (.func (.func fn) q r)) (hd:Ah n d=true) (h:G P n ops dr l (E.put d (.func (.func fn) q r)) w K):G1 P n ops dr ⟨d,.nilCheck x,ty,pos,af,g⟩ l E w K :=
 Zd _ hd (fun a ha w' _=>by simp [execOp,ha.eval hx]) h
theorem R1 {A B:Prop} (k:B) (h:B→A:=by first|(intro k;first|(apply Zu;exact k)|(apply Zr;exact k)|(apply ZN;exact k)|(apply Zw;exact k)|(apply ZO;exact rfl;first|(apply ZG;exact rfl;exact rfl;exact k)|(apply Zt;exact rfl;exact rfl;exact k))|fail)|fail):A:=h k
theorem R2 {A B:Prop} (k:B) (h:B→A:=by first|(intro k;first|(apply ZR;exact rfl;exact k)|(apply Zah;exact rfl;exact k)|(apply Zbe;exact rfl;exact rfl;exact k)|(apply Zan;exact k)|(apply Xn;exact k)|(apply ZZ;exact k)|(apply ZaW;exact k)|(apply Zx;exact k)|(apply Zaz;exact k)|(apply ZaA;exact k)|(apply Zas;exact k)|(apply Zal;exact rfl;exact k)|(apply ZQ;exact k)|(apply ZO;exact rfl;first|(apply Zak;exact rfl;exact rfl;exact rfl;exact k)|(apply ZL;exact rfl;exact rfl;exact rfl;exact k)|(apply Xf;exact rfl;exact rfl;exact rfl;exact k)|(apply Zaj;exact rfl;exact rfl;exact rfl;exact k)|(apply Zaw;exact rfl;exact rfl;exact rfl;exact k)|(apply Zba;exact rfl;exact rfl;exact rfl;exact k)|(apply ZaN;exact rfl;exact rfl;exact rfl;exact k)|(apply ZaM;exact rfl;exact rfl;exact rfl;exact k)|(apply ZaL;exact rfl;exact rfl;(clear k;omega);(clear k;omega);exact rfl;exact k)|(apply Xk;exact rfl;exact rfl;(clear k;omega);(clear k;omega);exact rfl;exact k)|(apply Xh;exact rfl;exact rfl;(clear k;omega);(clear k;omega);exact rfl;exact k)|(apply ZaP;exact rfl;exact rfl;(clear k;omega);exact rfl;exact k)|(apply Zbc;exact rfl;exact rfl;(clear k;omega);exact rfl;exact k)|(apply ZaT;exact rfl;exact rfl;(clear k;omega);exact rfl;exact k)|(apply ZC;exact rfl;exact rfl;exact rfl;exact k)|(apply Zag;exact rfl;exact rfl;exact rfl;exact k)|(apply Zbj;exact rfl;exact rfl;exact rfl;exact k)|(apply Zaf;exact rfl;exact rfl;exact k)|(apply ZaK;exact rfl;exact rfl;exact k)|(apply ZaO;exact rfl;exact rfl;exact k)|(apply Xj;exact rfl;exact rfl;exact k)|(apply Xi;exact rfl;exact rfl;exact k)|(apply ZD;exact rfl;exact rfl;exact rfl;exact k)|(apply ZaI;exact rfl;exact rfl;exact k)|(apply ZA;exact rfl;exact rfl;exact k)|(apply Zbl;exact rfl;exact rfl;exact k)|(apply Xg;exact rfl;exact rfl;exact rfl;exact k))|fail)|fail):A:=h k
def hcell (H:Array Obj) (a:Addr):Option Value :=
 match H[a.block]? with
 | some (.cells c _ _)=>if a.spot.isSome then none else c[a.off]?
 | _=>none
theorem Gj (w:World) (a:Addr):w.cell? a=hcell w.heap a:=rfl
theorem BI {H H':Array Obj} {a:Addr} (h:H'[a.block]?=H[a.block]?):hcell H' a=hcell H a:=by simp [hcell,h]
theorem Dm {H:Array Obj} {a:Addr} {v:Value} (h:hcell H a=some v):a.block<H.size:=by
 rcases Nat.lt_or_ge a.block H.size with h'|h'
 ·exact h'
 ·simp [hcell,Array.getElem?_eq_none h'] at h
theorem Ext.cell {w w':World} (h:Ext w w') {a:Addr} {v:Value} (hc:hcell w.heap a=some v):hcell w'.heap a=some v:=by
 rw [BI (h.block _ (Dm hc))];exact hc
theorem Ext.blk {w w':World} (h:Ext w w') {b:Nat} {o:Obj} (hc:w.heap[b]?=some o):w'.heap[b]?=some o:=by
 rw [h.block _ (Array.getElem?_eq_some_iff.1 hc).1];exact hc
theorem Ext.grown {w w':World} (h:Ext w w') (row:Option Nat):w.grownBy w' row:=⟨h.os,h.tape,h.output,h.size,fun k hk _=>h.block k hk⟩
theorem Ext.of_grown {w w':World} (h:w.grownBy w' none):Ext w w':=⟨h.os,h.tape,h.output,h.size,fun k hk=>h.block k hk (by simp)⟩
theorem Ext.drew {w w':World} (h:Ext w w'):Ext w w'.drew:=Below.drew h
theorem Kx {w w1 w':World} (hx:Ext w1 w') (h:Ext w w1:=by first|exact Ext.rfl'|exact Ext.drew Ext.rfl'):Ext w w':=h.trans hx
theorem Ext.alloc {w w':World} (h:Ext w w') (o:Obj):Ext w (w'.alloc o):=Below.alloc h h.size o
theorem Kz {w w':World} (h:Ext w w':=by repeat first|assumption|exact Ext.rfl'|apply Ext.drew|apply Ext.alloc|refine Ext.trans ?_ (by assumption)):Ext w w':=h
structure Enc (α:Type) where
 sz:Nat
 enc:α→List Value
 len:∀x,(enc x).length=sz
 one:∀x,∀v∈enc x,v.oneCell'=true
 pos:0<sz
structure Okp (p:Option Addr) (n c:Nat):Prop where
 le:n≤c
 cap:c≤maxLen
 nul:p=none→c=0
 spot:∀a,p=some a→0<c→a.spot=none
structure Sl {α:Type} (H:Array Obj) (e:Enc α) (p:Option Addr) (c:Nat) (xs:List α):Prop where
 ok:Okp p xs.length c
 cell:∀i x,xs[i]?=some x→∀k v,(e.enc x)[k]?=some v→hcell H (adr p (i * e.sz+k))=some v
variable {α : Type} {e : Enc α} {p : Option Addr} {c : Nat} {xs : List α} {H H' : Array Obj} {w' : World}
theorem Sl.bound (h:Sl H e p c xs):xs.length≤9223372036854775807:=by
 have h1:=h.ok.le;have h2:=h.ok.cap;simp only [maxLen] at h2;omega
theorem Sl.ext (h:Sl w.heap e p c xs) (hx:Ext w w'):Sl w'.heap e p c xs:=⟨h.ok,fun i x hi k v hv=>hx.cell (h.cell i x hi k v hv)⟩
theorem GU (p:Option Addr) (a:Addr) (k:Nat) (h:p=some a):(adr p k).block=a.block:=by subst h;rfl
theorem Sl.grown (h:Sl w.heap e p c xs) {row:Option Nat} (hg:w.grownBy w' row) (hne:∀a,p=some a→xs≠[]→row≠some a.block):Sl w'.heap e p c xs:=by
 refine ⟨h.ok,fun i x hi k v hv=>?_⟩
 have hc:=h.cell i x hi k v hv
 have hx:xs≠[]:=by rintro rfl;simp at hi
 cases p with
 | none =>
  have:=h.ok.nul rfl
  have h1:=h.ok.le
  have:xs.length≠0:=by cases xs <;> simp_all
  omega
 | some a =>
  rw [BI (hg.block _ (Dm hc) (fun e=>hne a rfl hx e.symm))]
  exact hc
theorem Sl.nil:Sl H e none 0 []:=⟨⟨Nat.le_refl _,Nat.zero_le _,fun _=>rfl,fun _ h _=>by cases h⟩,fun i x hi=>by simp at hi⟩
theorem Sl.empty {p:Option Addr} {c:Nat} (h:Okp p 0 c):Sl H e p c []:=⟨h,fun i x hi=>by simp at hi⟩
theorem Sl.take (h:Sl H e p c xs) (m:Nat):Sl H e p c (xs.take m) :=
 ⟨⟨Nat.le_trans (by simp;omega) h.ok.le,h.ok.cap,h.ok.nul,h.ok.spot⟩,fun i x hi=>h.cell i x (by
  rw [List.getElem?_take] at hi
  split at hi
  ·exact hi
  ·cases hi)⟩
def AP (p:Option Addr) (c l sz:Nat):Option Addr:=if c=l then p else p.map (·.add (l * sz))
theorem Sl.drop (h:Sl H e p c xs) {l:Nat} (hl:l≤c):Sl H e (AP p c l e.sz) (c - l) (xs.drop l):=by
 have h1:=h.ok.le
 refine ⟨⟨by simp;omega,Nat.le_trans (Nat.sub_le _ _) h.ok.cap,fun hn=>?_,fun a ha hpos=>?_⟩,fun i x hi k v hv=>?_⟩
 ·unfold AP at hn
  split at hn
  ·omega
  ·cases p with
   | none=>have:=h.ok.nul rfl;omega
   | some a=>simp at hn
 ·unfold AP at ha
  split at ha
  ·omega
  ·cases p with
   | none=>simp at ha
   | some q =>
    simp only [Option.map_some,Option.some.injEq] at ha
    subst ha
    have:=h.ok.spot q rfl (by omega)
    unfold Addr.add;split
    ·exact this
    ·rfl
 ·rw [List.getElem?_drop] at hi
  have hc:=h.cell (l+i) x hi k v hv
  have hlt:l+i<xs.length:=(List.getElem?_eq_some_iff.1 hi).1
  unfold AP
  rw [if_neg (by omega)]
  cases p with
  | none=>have:=h.ok.nul rfl;omega
  | some a =>
   have hs:=h.ok.spot a rfl (by omega)
   have e1:adr (Option.map (fun x=>Addr.add x (l * e.sz)) (some a)) (i * e.sz+k)=adr (some a) ((l+i) * e.sz+k):=by
    simp only [Option.map_some,adr,Addr.add]
    split
    ·rename_i h0;simp [Nat.add_mul,h0]
    ·simp [Nat.add_mul];omega
   rw [e1];exact hc
theorem Okp.at {n:Nat} (h:Okp p n c) (hn:0<n):∃b o,p=some ⟨b,o,none⟩:=by
 have h1:=h.le
 cases p with
 | none=>have:=h.nul rfl;omega
 | some a =>
  have:=h.spot a rfl (by omega)
  obtain ⟨b,o,s⟩:=a
  simp at this
  exact ⟨b,o,by rw [this]⟩
def Own (w:World) (B T:Nat) (e:Enc α) (p:Option Addr) (c:Nat) (xs:List α):Prop:=w.ownsRow B T e.sz (.slice p xs.length c) xs.length (xs.flatMap e.enc)
theorem flat_get (e:Enc α):∀(xs:List α) (i k:Nat) (x:α) (v:Value),xs[i]?=some x→(e.enc x)[k]?=some v→(xs.flatMap e.enc)[i * e.sz+k]?=some v
 | [],i,k,x,v,h,_=>by simp at h
 | y :: ys,0,k,x,v,h,hv=>by
  simp at h;subst h
  rw [List.flatMap_cons,List.getElem?_append_left (by have:=(List.getElem?_eq_some_iff.1 hv).1;simpa using this)]
  simpa using hv
 | y :: ys,i+1,k,x,v,h,hv=>by
  simp at h
  rw [List.flatMap_cons,List.getElem?_append_right (by rw [e.len,Nat.add_mul];omega),e.len]
  have:=flat_get e ys i k x v h hv
  rw [← this];congr 1;rw [Nat.add_mul];omega
theorem Az (e:Enc α):∀xs:List α,(xs.flatMap e.enc).length=xs.length * e.sz
 | []=>by simp
 | x :: xs=>by rw [List.flatMap_cons,List.length_append,e.len,Az e xs,List.length_cons,Nat.add_mul];omega
theorem Cg (e:Enc α) (xs:List α):∀v∈xs.flatMap e.enc,v.oneCell'=true:=by
 intro v hv
 obtain ⟨x,_,hx⟩:=List.mem_flatMap.1 hv
 exact e.one x v hx
theorem Own.nil (w:World) (B T:Nat) (e:Enc α):Own w B T e none 0 []:=World.ownsRow_nil w B T e.sz
theorem Own.sl {B T:Nat} (h:Own w B T e p c xs):Sl w.heap e p c xs:=by
 obtain ⟨hl,h⟩:=h
 rcases h with ⟨hv,hn⟩|⟨g,cap,cur,hv,hb,hg,hnc,hcm,hcs,htake⟩
 ·injection hv with h1 h2 h3
  subst h1 h3
  obtain rfl:xs=[]:=List.eq_nil_of_length_eq_zero hn
  exact Sl.nil
 ·injection hv with h1 h2 h3
  subst h1 h3
  refine ⟨⟨hnc,hcm,(fun h=>by cases h),(fun a ha _=>by simp at ha;rw [← ha])⟩,fun i x hi k v hv=>?_⟩
  have hf:=flat_get e xs i k x v hi hv
  rw [← htake,List.getElem?_take] at hf
  split at hf
  ·simp only [hcell,adr,hg,Option.isSome_none,Bool.false_eq_true,if_false,Nat.zero_add]
   simpa using hf
  ·cases hf
theorem Own.kept {B T:Nat} {row:Option Nat} (h:Own w B T e p c xs) (hg:w.grownBy w' row) (hne:∀a,p=some a→row≠some a.block):Own w' B T e p c xs:=by
 refine World.ownsRow.kept h hg ?_
 cases p with
 | none=>exact .inl rfl
 | some a=>exact .inr (fun h=>hne a rfl (by rw [← h];rfl))
theorem Own.ext {B T:Nat} (h:Own w B T e p c xs) (hx:Ext w w'):Own w' B T e p c xs:=h.kept (hx.grown none) (fun _ _ h=>by cases h)
def blk:Option Addr→Option Nat
 | some a=>some a.block
 | none=>none
theorem Own.ge {B T:Nat} (h:Own w B T e p c xs):∀k,blk p=some k→B≤k∧k<w.heap.size:=by
 intro k hk
 refine World.ownsRow.lt h k ?_
 cases p with
 | none=>cases hk
 | some a=>exact hk
def Blk (H:Array Obj) (b:Nat) (t:TypeId) (cs:List Value):Prop:=H[b]?=some (.cells cs.toArray t (0,0))
theorem Blk.lt {H:Array Obj} {b:Nat} {t:TypeId} {cs:List Value} (h:Blk H b t cs):b<H.size:=(Array.getElem?_eq_some_iff.1 h).1
theorem Blk.ext {w w':World} {b:Nat} {t:TypeId} {cs:List Value} (h:Blk w.heap b t cs) (hx:Ext w w'):Blk w'.heap b t cs:=hx.blk h
theorem Blk.grown {w w':World} {b:Nat} {t:TypeId} {cs:List Value} {row:Option Nat} (h:Blk w.heap b t cs) (hg:w.grownBy w' row) (hne:row≠some b):Blk w'.heap b t cs:=by
 have:=hg.block b h.lt (fun e=>hne e.symm)
 unfold Blk at *
 rw [this];exact h
abbrev bx (b:Nat):Option Addr:=some ⟨b,0,none⟩
theorem Blk.cell {H:Array Obj} {b:Nat} {t:TypeId} {cs:List Value} (h:Blk H b t cs) {m:Nat} {v:Value} (hv:cs[m]?=some v):hcell H (adr (bx b) m)=some v:=by
 unfold Blk at h
 simp [hcell,adr,h,hv]
variable {dq : Nat}
variable {z : Operand} {t t' u sz by_ len m : Nat}
theorem Q6 (h:G P n ops dr l (E.put d (.int .i64 len)) w K) (hu:Ab P t u sz by_) (hx:E.look x=some (.slice p len c):=by exact rfl) (hd:Ah n d=true:=by exact rfl):G1 P n ops dr ⟨d,.call ⟨.builtin .len,#[x],#[t]⟩,ty,pos,af,g⟩ l E w K :=
 Zd _ hd (fun a ha w' _=>by simp [execOp,resolve,invoke,builtin,Builtin.len_,ha.eval hx,run_underlying (P:=P) hu.1,goInt]) h
theorem CV (hu:Ab P t u sz by_) (w:World):(sizeOf u).run P w=.ok sz w:=by
 obtain ⟨_,i,z,hi,rfl,_⟩:=hu
 simp [sizeOf,typeInfo,hi]
theorem Zac (hu:Ab P t u sz by_) (hx:E.look x=some (.slice p len c)) (hy:E.look y=some (.int k i)) (ho:Okp p len c) (h0:0≤i) (h1:i<len) (hd:Ah n d=true)
  (h:G P n ops dr l (E.put d (.pointer (some (adr p (i.toNat * sz))))) w K):G1 P n ops dr ⟨d,.indexAddr t x y,ty,pos,af,g⟩ l E w K :=
 Zd _ hd (fun a ha w' _=>by
  obtain ⟨b,o,rfl⟩:=ho.at (by omega)
  simp [execOp,Instr.indexAt,ha.eval hx,ha.eval hy,asIntOf,run_underlying (P:=P) hu.1,h0,h1,CV hu,addr_add,adr]) h
theorem Q25 (hu:Ab P t u sz by_) (h:G P n ops dr l (E.put d (.pointer (some (adr p (i.toNat * sz))))) w K) (hx:E.look x=some (.slice p len c):=by exact rfl) (hy:E.look y=some (.int k i):=by exact rfl) (ho:Okp p len c:=by (first|assumption|exact Sl.ok (by assumption)|exact (Own.sl (by assumption)).ok)) (h0:0≤i:=by omega) (h1:i<len:=by omega) (hd:Ah n d=true:=by exact rfl):G1 P n ops dr ⟨d,.indexAddr t x y,ty,pos,af,g⟩ l E w K:=Zac hu hx hy ho h0 h1 hd h
theorem ZY {q:Nat} (hu:Ab P t u sz by_) (hx:E.look x=some (.slice p len c)) (hy:E.look y=some (.int k (q:Int))) (ho:Okp p len c) (h1:q<len) (hd:Ah n d=true)
  (h:G P n ops dr l (E.put d (.pointer (some (adr p (q * sz))))) w K):G1 P n ops dr ⟨d,.indexAddr t x y,ty,pos,af,g⟩ l E w K :=
 Zac hu hx hy ho (by omega) (by omega) hd (by simpa using h)
theorem Q13 {q:Nat} (hu:Ab P t u sz by_) (h:G P n ops dr l (E.put d (.pointer (some (adr p (q * sz))))) w K) (hx:E.look x=some (.slice p len c):=by exact rfl) (hy:E.look y=some (.int k (q:Int)):=by exact rfl) (ho:Okp p len c:=by (first|assumption|exact Sl.ok (by assumption)|exact (Own.sl (by assumption)).ok)) (h1:q<len:=by omega) (hd:Ah n d=true:=by exact rfl):G1 P n ops dr ⟨d,.indexAddr t x y,ty,pos,af,g⟩ l E w K:=ZY hu hx hy ho h1 hd h
theorem ZB {q off:Nat} (hu:Aa P t q off) (hx:E.look x=some (.pointer (some (adr p m)))) (hd:Ah n d=true)
  (h:G P n ops dr l (E.put d (.pointer (some (adr p (m+off))))) w K):G1 P n ops dr ⟨d,.fieldAddr t x q,ty,pos,af,g⟩ l E w K :=
 Zd _ hd (fun a ha w' _=>by
  obtain ⟨fs,f,h1,h2,h3,i,h4,h5⟩:=hu
  simp [execOp,Instr.fieldAt,ha.eval hx,run_underlying h1,h2,Instr.sureAddr,fieldPlace,sizeOf,typeInfo,h4,h5,Gh,h3]) h
theorem Q2 {q:Nat} {off:Nat} (h:G P n ops dr l (E.put d (.pointer (some (adr p (m+off))))) w K) (hu:Aa P t q off) (hx:E.look x=some (.pointer (some (adr p m))):=by exact rfl) (hd:Ah n d=true:=by exact rfl):G1 P n ops dr ⟨d,.fieldAddr t x q,ty,pos,af,g⟩ l E w K:=ZB hu hx hd h
theorem Ej {o:Oper} {w':World} (h:Bi P o=false∨Bd [] w w') (hr:Bi P o=true):Ext w w':=by
 rcases h with h|h
 ·rw [h] at hr;cases hr
 ·exact h.toE
theorem ZaF (hu:PlainT P t) (hx:E.look x=some (.pointer (some (adr p m)))) (hc:hcell w.heap (adr p m)=some v) (hd:Ah n d=true)
  (h:G P n ops (dq,[]) l (E.put d v) w K):G1 P n ops (dq,[]) ⟨d,.load t x,ty,pos,af,g⟩ l E w K :=
 Zd _ hd (fun a ha w' hw=>by
  have:=(Ej hw rfl).cell hc
  simp [execOp,Instr.loadAt,ha.eval hx,Instr.sureAddr,loadVar,hu w',load,Sem.run,Gj,this]) h
theorem GD {vs:List Value} (hc:∀k v,vs[k]?=some v→hcell w.heap (adr p (m+k))=some v):(loadCells (adr p m) vs.length).run P w=.ok vs.toArray w :=
 run_loadCells_list w (adr p m) vs (fun j v hv=>by rw [Gh];exact hc j v hv)
theorem ER {vs:List Value} (hu:Ak P t sz) (hl:vs.length=sz) (hc:∀k v,vs[k]?=some v→hcell w.heap (adr p (m+k))=some v):(loadVar t (adr p m)).run P w=.ok (.agg vs.toArray) w:=by
 obtain ⟨h1,i,h2,rfl⟩:=hu
 have:=GD (P:=P) hc
 rw [hl] at this
 simp [loadVar,h1 w,sizeOf,typeInfo,h2,this]
theorem Zaa {vs:List Value} (hu:Ak P t sz) (hx:E.look x=some (.pointer (some (adr p m)))) (hl:vs.length=sz) (hc:∀k v,vs[k]?=some v→hcell w.heap (adr p (m+k))=some v) (hd:Ah n d=true)
  (h:G P n ops (dq,[]) l (E.put d (.agg vs.toArray)) w K):G1 P n ops (dq,[]) ⟨d,.load t x,ty,pos,af,g⟩ l E w K :=
 Zd _ hd (fun a ha w' hw=>by
  have:=ER (P:=P) (w:=w') (p:=p) (m:=m) hu hl (fun k v hv=>(Ej hw rfl).cell (hc k v hv))
  simp [execOp,Instr.loadAt,ha.eval hx,Instr.sureAddr,this]) h
theorem Q14 {α:Type} {e:Enc α} {xs:List α} {q:Nat} {el:α} (hu:Ak P t sz) (h:G P n ops (dq,[]) l (E.put d (.agg (e.enc el).toArray)) w K) (hx:E.look x=some (.pointer (some (adr p (q * sz)))):=by exact rfl) (hs:Sl w.heap e p c xs:=by assumption) (hq:xs[q]?=some el:=by assumption) (he:e.sz=sz:=by exact rfl) (hd:Ah n d=true:=by exact rfl):G1 P n ops (dq,[]) ⟨d,.load t x,ty,pos,af,g⟩ l E w K :=
 Zaa hu hx (by rw [e.len,he]) (fun k v hv=>by subst he;exact hs.cell q el hq k v hv) hd h
theorem Q9 {α:Type} {e:Enc α} {xs:List α} {q:Nat} {el:α} (h:G P n ops (dq,[]) l (E.put d v) w K) (hu:PlainT P t) (hx:E.look x=some (.pointer (some (adr p (q * 1)))):=by exact rfl) (hs:Sl w.heap e p c xs:=by assumption) (hq:xs[q]?=some el:=by assumption) (he:e.sz=1:=by exact rfl) (hv:e.enc el=[v]:=by exact rfl) (hd:Ah n d=true:=by exact rfl):G1 P n ops (dq,[]) ⟨d,.load t x,ty,pos,af,g⟩ l E w K :=
 ZaF hu hx (by have:=hs.cell q el hq 0 v (by rw [hv];rfl);rw [he] at this;exact this) hd h
theorem Q44 {α:Type} {e:Enc α} {xs:List α} {q:Nat} {off:Nat} {el:α} (h:G P n ops (dq,[]) l (E.put d v) w K) (hu:PlainT P t:=by (first|exact T.p9|exact T.p37|exact T.p49|exact T.p3)) (hx:E.look x=some (.pointer (some (adr p (q * sz+off)))):=by exact rfl) (hs:Sl w.heap e p c xs:=by assumption) (hq:xs[q]?=some el:=by assumption) (he:e.sz=sz:=by exact rfl) (hv:(e.enc el)[off]?=some v:=by exact rfl) (hd:Ah n d=true:=by exact rfl):G1 P n ops (dq,[]) ⟨d,.load t x,ty,pos,af,g⟩ l E w K :=
 ZaF hu hx (by have:=hs.cell q el hq off v hv;rw [he] at this;exact this) hd h
theorem Q3 {b:Nat} {cs:List Value} (h:G P n ops (dq,[]) l (E.put d v) w K) (hu:PlainT P t) (hx:E.look x=some (.pointer (some (adr (bx b) m))):=by exact rfl) (hb:Blk w.heap b t' cs:=by assumption) (hv:cs[m]?=some v:=by exact rfl) (hd:Ah n d=true:=by exact rfl):G1 P n ops (dq,[]) ⟨d,.load t x,ty,pos,af,g⟩ l E w K :=
 ZaF hu hx (hb.cell hv) hd h
theorem Q31 {b:Nat} {cs:List Value} (h:G P n ops dr l (E.put d v) w K) (hu:PlainT P t:=by (first|exact T.p9|exact T.p37|exact T.p49|exact T.p3)) (hx:E.look x=some (.pointer (some (adr (bx b) m))):=by exact rfl) (hb:Blk w.heap b t' cs:=by assumption) (hv:cs[m]?=some v:=by exact rfl) (hS:AA dr.2 b=false:=by (first|assumption|(focus (simp [AA];omega)))) (hd:Ah n d=true:=by exact rfl):G1 P n ops dr ⟨d,.load t x,ty,pos,af,g⟩ l E w K :=
 Zd _ hd (fun a ha w' hw=>by
  have hw':Bd dr.2 w w':=by
   rcases hw with hw|hw
   ·simp [Bi] at hw
   ·exact hw
  have hb':Blk w'.heap b t' cs:=by
   have:=hw'.block b hb.lt hS
   unfold Blk at *
   rw [this];exact hb
  have:=hb'.cell hv
  simp [execOp,Instr.loadAt,ha.eval hx,Instr.sureAddr,loadVar,hu w',load,Sem.run,Gj,this]) h
theorem Ae {b:Nat} {cs:List Value} (hu:Ak P t sz) (hb:Blk w.heap b t' cs) (hl:cs.length=sz):(loadVar t (adr (bx b) 0)).run P w=.ok (.agg cs.toArray) w :=
 ER hu hl (fun k v hv=>by rw [Nat.zero_add];exact hb.cell hv)
theorem Q11 {b:Nat} {cs:List Value} (hu:Ak P t sz) (h:G P n ops (dq,[]) l (E.put d (.agg cs.toArray)) w K) (hx:E.look x=some (.pointer (some (adr (bx b) 0))):=by exact rfl) (hb:Blk w.heap b t' cs:=by assumption) (hl:cs.length=sz:=by exact rfl) (hd:Ah n d=true:=by exact rfl):G1 P n ops (dq,[]) ⟨d,.load t x,ty,pos,af,g⟩ l E w K :=
 Zaa hu hx hl (fun k v hv=>by rw [Nat.zero_add];exact hb.cell hv) hd h
theorem Q8 (h:∀b w',b=w.heap.size→Blk w'.heap b t v.cells.toList→Ext w w'→w'.heap.size=w.heap.size+1→G P n ops dr l (E.put d (.pointer (some (adr (bx b) 0)))) w' K) (hx:E.look x=some v:=by exact rfl) (he:Am P dr.1 ⟨d,.box t x,ty,pos,af,g⟩=true:=by exact rfl) (hd:Ah n d=true:=by exact rfl):G1 P n ops dr ⟨d,.box t x,ty,pos,af,g⟩ l E w K :=
 Zs _ (w.alloc (.cells v.cells t)) he hd (fun a ha=>by simp [execOp,Instr.box,ha.eval hx,newVar,newRow,newObj,Sem.run,adr])
  (.inr (Ext.alloc Ext.rfl' _).toS) (h w.heap.size _ rfl (by unfold Blk;rw [Array.toArray_toList];exact heap_alloc_new w _) (Ext.alloc Ext.rfl' _) (by simp))
def Ag (P:Program) (t:TypeId) (z:Value):Prop:=(P.info? t).bind (·.zero)=some z
theorem Ag.of {z:Value} (h:(P.info? t).bind (·.zero)=some z):Ag P t z:=h
theorem CW {z:Value} (h:Ag P t z) (w:World):(zeroValue t).run P w=.ok z w:=by
 unfold Ag at h
 cases hi:P.info? t with
 | none=>simp [hi] at h
 | some i=>simp [hi] at h;simp [zeroValue,typeInfo,hi,h]
theorem Q7 {z:Value} (hz:Ag P t z) (h:∀b w',b=w.heap.size→Blk w'.heap b t z.cells.toList→Ext w w'→w'.heap.size=w.heap.size+1→G P n ops dr l (E.put d (.pointer (some (adr (bx b) 0)))) w' K) (he:Am P dr.1 ⟨d,.alloc t,ty,pos,af,g⟩=true:=by exact rfl) (hd:Ah n d=true:=by exact rfl):G1 P n ops dr ⟨d,.alloc t,ty,pos,af,g⟩ l E w K :=
 Zs _ (w.alloc (.cells z.cells t)) he hd (fun a ha=>by simp [execOp,Instr.alloc,CW hz,newVar,newRow,newObj,Sem.run,adr])
  (.inr (Ext.alloc Ext.rfl' _).toS) (h w.heap.size _ rfl (by unfold Blk;rw [Array.toArray_toList];exact heap_alloc_new w _) (Ext.alloc Ext.rfl' _) (by simp))
theorem Co (w:World) (b:Nat) (cs:Array Value):w.grownBy (w.setRow b cs) (some b) :=
 ⟨rfl,rfl,rfl,by simp,fun k _ hne=>setRow_other w b k cs (fun e=>hne (by rw [e]))⟩
theorem Hy {b:Nat} {cs vs:List Value} (hsz:Ad P t sz) (hb:Blk w.heap b t' cs) (hvs:v.cells.toList=vs) (hl:vs.length=sz) (hm:m+sz≤cs.length) (h1:∀v∈vs,v.oneCell'=true) :
  (storeVar t (adr (bx b) m) v).run P w=.ok () (w.setRow b (cs.take m++vs++cs.drop (m+sz)).toArray):=by
 obtain ⟨i,hi,rfl⟩:=hsz
 have hs:v.cells.size=i.size:=by rw [← hl,← hvs];simp
 have:=run_storeCells_at P b m t' vs 0 cs.toArray w hb (by simp;omega) h1
 simp only [Nat.add_zero] at this
 simp only [storeVar,sizeOf,typeInfo,Sem.run_bind,run_program,Result.andThen_ok,hi,Sem.run_pure,hs,ne_eq,not_true_eq_false,if_false]
 rw [hvs,← hl]
 show (storeCells ⟨b,0+m,none⟩ vs).run P w=_
 rw [Nat.zero_add]
 exact this
theorem ZJ {b:Nat} {cs vs:List Value} (hsz:Ad P t sz) (hx:E.look x=some (.pointer (some (adr (bx b) m)))) (hy:E.look y=some v) (hb:Blk w.heap b t' cs) (hvs:v.cells.toList=vs) (hl:vs.length=sz) (hm:m+sz≤cs.length)
  (h1:∀v∈vs,v.oneCell'=true) (he:Am P dr.1 ⟨d,.store t x y,ty,pos,af,g⟩=true) (hw:writes dr.1 ⟨d,.store t x y,ty,pos,af,g⟩=true∨AA dr.2 b=true) (hd:Ah n d=true)
  (h:∀w',Blk w'.heap b t' (cs.take m++vs++cs.drop (m+sz))→w.grownBy w' (some b)→w'.heap.size=w.heap.size→G P n ops dr l (E.put d undef) w' K):G1 P n ops dr ⟨d,.store t x y,ty,pos,af,g⟩ l E w K :=
 Zat (w.setRow b (cs.take m++vs++cs.drop (m+sz)).toArray) he hd (fun a ha=>by
   simp [execOp,Instr.storeAt,ha.eval hx,ha.eval hy,Instr.sureAddr,Hy hsz hb hvs hl hm h1]) (hw.imp id (fun hS=>⟨rfl,rfl,rfl,by simp,fun k _ hk=>setRow_other w b k _ (fun e=>by rw [e,hS] at hk;cases hk)⟩))
  (h _ (by unfold Blk;exact setRow_heap w b _ _ t' (0,0) hb) (Co w b _) (by simp))
theorem Q5 {b:Nat} {cs:List Value} {vs:List Value} (hsz:Ad P t sz) (hb:Blk w.heap b t' cs) (h:∀w',Blk w'.heap b t' (cs.take m++vs++cs.drop (m+sz))→w.grownBy w' (some b)→w'.heap.size=w.heap.size→G P n ops dr l (E.put d undef) w' K) (hx:E.look x=some (.pointer (some (adr (bx b) m))):=by exact rfl) (hy:E.look y=some v:=by exact rfl) (hvs:v.cells.toList=vs:=by exact rfl) (hl:vs.length=sz:=by exact rfl) (hm:m+sz≤cs.length:=by (first|exact Nat.le_of_ble_eq_true rfl|(focus (simp [Value.cells];done)))) (h1:∀v∈vs,v.oneCell'=true:=by (first|exact Enc.one _ _|(focus (simp [Value.oneCell'];done))|(focus (simp [Value.cells,Value.oneCell'];done))|exact Enc.oneAgg _ _)) (he:Am P dr.1 ⟨d,.store t x y,ty,pos,af,g⟩=true:=by exact rfl) (hw:writes dr.1 ⟨d,.store t x y,ty,pos,af,g⟩=true∨AA dr.2 b=true:=by (first|exact .inl rfl|exact .inr (by simp [AA]))) (hd:Ah n d=true:=by exact rfl):G1 P n ops dr ⟨d,.store t x y,ty,pos,af,g⟩ l E w K:=ZJ hsz hx hy hb hvs hl hm h1 he hw hd h
theorem Dz (s:ByteArray) (k:Nat):BA s k=s.data.toList.getD k 0:=by
 simp [BA,Array.getD_eq_getD_getElem?]
theorem Di (s:ByteArray):s.size=s.data.toList.length:=by
 rw [Array.length_toList];rfl
theorem Aj {α:Type} {xs:List α} {k:Nat} (h:k<xs.length):∃x,xs[k]?=some x:=⟨xs[k],List.getElem?_eq_getElem h⟩
theorem AR {α:Type} {xs:List α} {k:Nat} {x:α} (h:xs[k]?=some x):k<xs.length:=(List.getElem?_eq_some_iff.1 h).1
theorem AJ {α:Type} {xs:List α} {k:Nat} {x:α} (h:xs[k]?=some x):xs.take (k+1)=xs.take k++[x]:=by
 rw [List.take_add_one,h];rfl
def EqT (P:Program) (t:TypeId) (x y:Value) (b:Bool):Prop:=∀w,(Op.equal t x y).run P w=.ok b w
theorem EqT.two {P:Program} {t:TypeId} {f1 f2:Field} {a1 a2 b1 b2:Value} {p q:Bool} (hu:P.underlying t=some (.struct #[f1,f2])) (hs:P.stoodInHeld t=false)
  (n1 : f1.name ≠ "_") (n2 : f2.name ≠ "_") (o1 : f1.offset = 0) (o2 : f2.offset = 1) (p1 : PlainT P f1.type) (p2 : PlainT P f2.type)
  (e1:∀w d,(Op.equalIn (d+1) f1.type a1 b1).run P w=.ok p w) (e2:∀w d,(Op.equalIn (d+1) f2.type a2 b2).run P w=.ok q w):EqT P t (.agg #[a1,a2]) (.agg #[b1,b2]) (p && q):=by
 intro w
 have key:∀d,(Op.equalIn (d+1+1) t (.agg #[a1,a2]) (.agg #[b1,b2])).run P w=.ok (p && q) w:=by
  intro d
  have q1:(part f1.type #[a1,a2] f1.offset).run P w=.ok a1 w:=by simp [part,p1 w,o1]
  have q2:(part f1.type #[b1,b2] f1.offset).run P w=.ok b1 w:=by simp [part,p1 w,o1]
  have q3:(part f2.type #[a1,a2] f2.offset).run P w=.ok a2 w:=by simp [part,p2 w,o2]
  have q4:(part f2.type #[b1,b2] f2.offset).run P w=.ok b2 w:=by simp [part,p2 w,o2]
  rw [Op.equalIn]
  simp only [Sem.run_bind,run_underlying hu,Result.andThen_ok,run_program,hs]
  simp [n1,n2,q1,q2,q3,q4,e1,e2]
  cases p <;> cases q <;> simp
 exact key 9998
variable {v' : Value} {b : Bool}
theorem KZ (hu:Ab P t u sz by_) (w:World):(Op.equal t (.slice p len c) (.slice none 0 0)).run P w=.ok p.isNone w:=by
 have key:∀d,(Op.equalIn (d+1) t (.slice p len c) (.slice none 0 0)).run P w=.ok p.isNone w:=by
  intro d
  rw [Op.equalIn.eq_def]
  cases p <;> simp [run_underlying hu.1]
 exact key 9999
theorem Q48 (hu:Ab P t u sz by_) (h:G P n ops dr l (E.put d (.bool p.isNone)) w K) (hx:E.look x=some (.slice p len c):=by exact rfl) (hy:E.look y=some (.slice none 0 0):=by exact rfl) (hd:Ah n d=true:=by exact rfl):G1 P n ops dr ⟨d,.binOp .eql t x y t',ty,pos,af,g⟩ l E w K :=
 Zd _ hd (fun a ha w' _=>by simp [execOp,ha.eval hx,ha.eval hy,eqGuard,binOp,KZ hu]) h
theorem Q95 (hx:E.look x=some (.int k i)) (hs:Ao P t k') (ht:Ao P t' .i64) (hd:Ah n d=true) (h:G P n ops dr l (E.put d (.int .i64 i)) w K) (h1:-9223372036854775808≤i) (h2:i≤9223372036854775807):G1 P n ops dr ⟨d,.convert t t' x,ty,pos,af,g⟩ l E w K :=
 Zab hx hs ht hd (by rw [wrap_i64 h1 h2];exact h)
theorem Q97 (hs:Ao P t k') (ht:Ao P t' .u8) (h:G P n ops dr l (E.put d (.int .u8 i)) w K) (hx:E.look x=some (.int k i):=by exact rfl) (h1:0≤i:=by omega) (h2:i≤255:=by omega) (hd:Ah n d=true:=by exact rfl):G1 P n ops dr ⟨d,.convert t t' x,ty,pos,af,g⟩ l E w K :=
 Zab hx hs ht hd (by rw [wrap_u8 h1 h2];exact h)
theorem Q96 (hs:Ao P t k') (ht:Ao P t' .u64) (h:G P n ops dr l (E.put d (.int .u64 i)) w K) (hx:E.look x=some (.int k i):=by exact rfl) (h1:0≤i:=by omega) (h2:i≤18446744073709551615:=by omega) (hd:Ah n d=true:=by exact rfl):G1 P n ops dr ⟨d,.convert t t' x,ty,pos,af,g⟩ l E w K :=
 Zab hx hs ht hd (by rw [wrap_u64 h1 h2];exact h)
theorem PE {c:Nat} {j:Int} (h:G P n ops dr l (E.put d (.int k (i / (c:Int)))) w K) (hx:E.look x=some (.int k i):=by exact rfl) (hy:E.look y=some (.int k' j):=by exact rfl) (h0:0≤i∧0≤j:=by omega) (hc:2 ^ min j.toNat k.bits=c:=by exact rfl) (hd:Ah n d=true:=by exact rfl):G1 P n ops dr ⟨d,.binOp .shr t x y t',ty,pos,af,g⟩ l E w K:=by
 refine Zbd hx hy h0.2 hd ?_
 have e:i.fdiv (2 ^ min j.toNat k.bits)=i / (c:Int):=by
  rw [← hc,Int.fdiv_eq_ediv_of_nonneg _ (by exact_mod_cast Nat.zero_le _)]
  push_cast
  rfl
 rw [e];exact h
theorem Hw (hu:Ab P t u sz by_) {lo hi:Nat} {a b:Option Value} (h1:lo≤hi) (h2:hi≤c) (w:World)
  (ha:a=none∧lo=0∨∃k,a=some (.int k lo)) (hb:b=none∧hi=len∨∃k,b=some (.int k hi)) :
  (Instr.sliceAt t (.slice p len c) a b none).run P w=.ok (.slice (AP p c lo sz) (hi - lo) (c - lo)) w:=by
 have e2:(0:Int)≤hi∧(hi:Int)≤c:=by omega
 have e3:(0:Int)≤lo∧(lo:Int)≤hi:=by omega
 have hsz:=CV hu w
 simp only [Instr.sliceAt,Sem.run_bind,run_underlying hu.1,Result.andThen_ok,Instr.slice,Instr.sliceBounds,Sem.run_pure]
 rcases ha with ⟨rfl,rfl⟩|⟨k,rfl⟩ <;> rcases hb with ⟨rfl,rfl⟩|⟨k2,rfl⟩ <;>
  simp [Instr.sliceBound,asIntOf,e2,e3,hsz,AP,h1]
theorem Zax {q:Nat} (hu:Ab P t u sz by_) (hx:E.look x=some (.slice p len c)) (hy:E.look y=some (.int k (q:Int))) (ho:Okp p len c) (hq:q≤len) (hd:Ah n d=true)
  (h:G P n ops dr l (E.put d (.slice (AP p c q sz) (len - q) (c - q))) w K):G1 P n ops dr ⟨d,.slice t x (some y) none none,ty,pos,af,g⟩ l E w K :=
 Zd _ hd (fun a ha w' _=>by simp [execOp,ha.eval hx,ha.eval hy,Hw hu hq ho.le w' (.inr ⟨k,rfl⟩) (.inl ⟨rfl,rfl⟩)]) h
theorem Q27 {q:Nat} (hu:Ab P t u sz by_) (h:G P n ops dr l (E.put d (.slice (AP p c q sz) (len - q) (c - q))) w K) (hx:E.look x=some (.slice p len c):=by exact rfl) (hy:E.look y=some (.int k (q:Int)):=by exact rfl) (ho:Okp p len c) (hq:q≤len:=by omega) (hd:Ah n d=true:=by exact rfl):G1 P n ops dr ⟨d,.slice t x (some y) none none,ty,pos,af,g⟩ l E w K:=Zax hu hx hy ho hq hd h
theorem ZaQ {q:Nat} (hu:Ab P t u sz by_) (hx:E.look x=some (.slice p len c)) (hy:E.look y=some (.int k (q:Int))) (hq:q≤c) (hd:Ah n d=true)
  (h:G P n ops dr l (E.put d (.slice (AP p c 0 sz) q c)) w K):G1 P n ops dr ⟨d,.slice t x none (some y) none,ty,pos,af,g⟩ l E w K :=
 Zd _ hd (fun a ha w' _=>by simp [execOp,ha.eval hx,ha.eval hy,Hw hu (Nat.zero_le _) hq w' (.inl ⟨rfl,rfl⟩) (.inr ⟨k,rfl⟩)]) h
theorem ZaG {q r:Nat} (hu:Ab P t u sz by_) (hx:E.look x=some (.slice p len c)) (hy:E.look y=some (.int k (q:Int))) (hz:E.look z=some (.int k' (r:Int))) (hq:q≤r) (hr:r≤c) (hd:Ah n d=true)
  (h:G P n ops dr l (E.put d (.slice (AP p c q sz) (r - q) (c - q))) w K):G1 P n ops dr ⟨d,.slice t x (some y) (some z) none,ty,pos,af,g⟩ l E w K :=
 Zd _ hd (fun a ha w' _=>by simp [execOp,ha.eval hx,ha.eval hy,ha.eval hz,Hw hu hq hr w' (.inr ⟨k,rfl⟩) (.inr ⟨k',rfl⟩)]) h
theorem SS (p:Option Addr) (c sz:Nat):AP p c 0 sz=p:=by
 unfold AP
 split
 ·rfl
 ·cases p <;> simp [Addr.add]
theorem run_append_nothing (hu:Ab P t u sz by_) (ho:len≤c) (ty:TypeId) (w:World):(Builtin.append_ #[t,t] ty #[.slice p len c,.slice none 0 0]).run P w=.ok (.slice p len c) w:=by
 obtain ⟨h1,i,z,hi,rfl,rfl,hz,_⟩:=hu
 cases p <;> simp [Builtin.append_,run_underlying h1,sizeOf,typeInfo,hi,Builtin.lenOf,ho,Builtin.firstCells,storeCells]
theorem NH {α:Type} (e:Enc α):∀(xs:List α) (j:Nat) (v:Value),(xs.flatMap e.enc)[j]?=some v→∃i k x,j=i * e.sz+k∧xs[i]?=some x∧(e.enc x)[k]?=some v
 | [],j,v,h=>by simp at h
 | x :: xs,j,v,h=>by
  rw [List.flatMap_cons] at h
  by_cases hj:j<(e.enc x).length
  ·rw [List.getElem?_append_left hj] at h
   exact ⟨0,j,x,by simp,rfl,h⟩
  ·rw [List.getElem?_append_right (by omega),e.len] at h
   obtain ⟨i,k,y,h1,h2,h3⟩:=NH e xs _ v h
   rw [e.len] at hj
   exact ⟨i+1,k,y,by rw [Nat.add_mul];omega,by simpa using h2,h3⟩
theorem Sl.flat {α:Type} {e:Enc α} {H:Array Obj} {p:Option Addr} {c:Nat} {xs:List α} (h:Sl H e p c xs) (j:Nat) (v:Value) (hv:(xs.flatMap e.enc)[j]?=some v):hcell H (adr p j)=some v:=by
 obtain ⟨i,k,x,rfl,h2,h3⟩:=NH e xs j v hv
 exact h.cell i x h2 k v h3
def BK (w:World) (p p':Option Addr):Prop:=blk p'=blk p∨∀k,blk p'=some k→w.heap.size≤k
theorem CG {w w1 w2:World} {p p':Option Addr} (h1:w.grownBy w1 (blk p)) (hp:BK w p p') (h2:w1.grownBy w2 (blk p')):w.grownBy w2 (blk p):=by
 refine ⟨h2.os.trans h1.os,h2.tape.trans h1.tape,h2.output.trans h1.output,Nat.le_trans h1.size h2.size,fun k hk hne=>?_⟩
 rw [h2.block k (Nat.lt_of_lt_of_le hk h1.size) (fun e=>?_),h1.block k hk hne]
 rcases hp with hp|hp
 ·exact hne (by rw [e,hp])
 ·have:=hp k e.symm;omega
theorem BK.trans {w w1:World} {p p' p2:Option Addr} (h:BK w p p') (hs:w.heap.size≤w1.heap.size) (h2:BK w1 p' p2):BK w p p2:=by
 rcases h2 with h2|h2
 ·rcases h with h|h
  ·exact .inl (h2.trans h)
  ·exact .inr (fun k hk=>h k (by rw [← h2];exact hk))
 ·exact .inr (fun k hk=>Nat.le_trans hs (h2 k hk))
theorem RJ {w w1 w2:World} {row:Option Nat} (h1:w.grownBy w1 row) (h2:Ext w1 w2):w.grownBy w2 row :=
 ⟨h2.os.trans h1.os,h2.tape.trans h1.tape,h2.output.trans h1.output,Nat.le_trans h1.size h2.size,fun k hk hne=>(h2.block k (Nat.lt_of_lt_of_le hk h1.size)).trans (h1.block k hk hne)⟩
theorem Ev {w w1 w2:World} {row:Option Nat} (h1:Ext w w1) (h2:w1.grownBy w2 row):w.grownBy w2 row :=
 ⟨h2.os.trans h1.os,h2.tape.trans h1.tape,h2.output.trans h1.output,Nat.le_trans h1.size h2.size,fun k hk hne=>(h2.block k (Nat.lt_of_lt_of_le hk h1.size) hne).trans (h1.block k hk)⟩
theorem Ext.own {w w1 w2:World} {row:Option Nat} (h1:Ext w w1) (h2:w1.grownBy w2 row) (hr:∀k,row=some k→w.heap.size≤k):Ext w w2 :=
 ⟨h2.os.trans h1.os,h2.tape.trans h1.tape,h2.output.trans h1.output,Nat.le_trans h1.size h2.size,fun k hk=>(h2.block k (Nat.lt_of_lt_of_le hk h1.size) (fun e=>by have:=hr k e.symm;omega)).trans (h1.block k hk)⟩
theorem Qd {α:Type} {e:Enc α} {B:Nat} {xs ys:List α} {q:Option Addr} {c2:Nat} (hu:Ab P t u sz by_) (hsz:e.sz=sz) (hB:B≤w.heap.size) (hown:Go.V.Own w B u e p c xs) (hsl:Sl w.heap e q c2 ys)
  (hlen:(xs.length+ys.length) * by_≤140737488355328) (hmax:xs.length+ys.length≤9223372036854775807) (ty:TypeId) :
  ∃p' c' w',(Builtin.append_ #[t,t] ty #[.slice p xs.length c,.slice q ys.length c2]).run P w=.ok (.slice p' (xs++ys).length c') w'∧Go.V.Own w' B u e p' c' (xs++ys)∧w.grownBy w' (blk p)∧BK w p p':=by
 cases q with
 | none =>
  have h1:=hsl.ok.nul rfl
  have h2:=hsl.ok.le
  obtain rfl:ys=[]:=List.eq_nil_of_length_eq_zero (by omega)
  subst h1
  refine ⟨p,c,w,?_,by simpa using hown,⟨rfl,rfl,rfl,Nat.le_refl _,fun _ _ _=>rfl⟩,.inl rfl⟩
  have:=run_append_nothing (p:=p) (len:=xs.length) (c:=c) hu hown.sl.ok.le ty w
  simpa using this
 | some a =>
  have hn:∀j v,(ys.flatMap e.enc)[j]?=some v→w.cell? (a.add j)=some v:=by
   intro j v hv
   have hne:0<ys.length:=by cases ys <;> simp_all
   have hspot:=hsl.ok.spot a rfl (by have:=hsl.ok.le;omega)
   have hc:=hsl.flat j v hv
   obtain ⟨b,o,s⟩:=a
   simp only at hspot
   subst hspot
   rw [addr_add];exact hc
  obtain ⟨h1,i,z,hi,hs1,hb1,hz,hz2⟩:=hu
  subst hsz
  obtain ⟨v',w',hr,h2,h3,_⟩:=run_append_own (P:=P) w B t ty u i z e.sz by_ h1 hi hz hs1 hb1 hz2 e.pos (.slice p xs.length c) xs.length (xs.flatMap e.enc) hown a ys.length c2 (ys.flatMap e.enc)
   (Az e ys) hn (Cg e ys) (by simp only [maxLen];omega) hlen hB
  have hform:∃p' c',v'=.slice p' (xs++ys).length c':=by
   rcases h2.2 with ⟨rfl,hn⟩|⟨g,cap,cur,rfl,_⟩
   ·exact ⟨none,0,by rw [List.length_append,hn]⟩
   ·exact ⟨some ⟨g,0,none⟩,cap,by rw [List.length_append]⟩
  obtain ⟨p',c',rfl⟩:=hform
  refine ⟨p',c',w',hr,?_,?_,?_⟩
  ·unfold Go.V.Own
   rw [List.flatMap_append]
   simpa using h2
  rotate_left
  ·rcases hown.2 with ⟨hv,hn0⟩|⟨g,cap,cur,hv,hbg,hg,hnc,hcm,hcs,htake⟩
   ·injection hv with e1 e2 e3
    subst e1 e3
    by_cases hm:ys.length=0
    ·obtain rfl:ys=[]:=List.eq_nil_of_length_eq_zero hm
     have e4:(Builtin.append_ #[t,t] ty #[.slice none xs.length 0,.slice (some a) ([]:List α).length c2]).run P w=.ok (.slice none xs.length 0) w:=by
      simp [Builtin.append_,run_underlying h1,sizeOf,typeInfo,hi,Builtin.lenOf,hn0,Builtin.firstCells,loadCells,loadCellsFrom]
     rw [e4] at hr
     injection hr with e5 _
     injection e5 with e6 _ _
     exact .inl (by rw [← e6])
    ·have hr2:=run_append_nil (P:=P) w t ty u i z h1 hi hz a ys.length c2 (ys.flatMap e.enc) (by rw [hs1];exact Az e ys) hn (by omega) (by omega) (by rw [hb1];have:=hlen;rw [hn0,Nat.zero_add] at this;omega)
     rw [hn0] at hr
     rw [hr2] at hr
     injection hr with e5 _
     injection e5 with e6 _ _
     exact .inr (fun k hk=>by rw [← e6] at hk;simp [blk] at hk;omega)
   ·injection hv with e1 e2 e3
    subst e1 e3
    by_cases hroom:xs.length+ys.length≤c
    ·have hr2:=run_append_room (P:=P) w t ty u i h1 hi g xs.length c cur hg a ys.length c2 (ys.flatMap e.enc) (by rw [hs1];exact Az e ys) hn (Cg e ys) hroom
      (by rw [hs1,hcs,Az,← Nat.add_mul];exact Nat.mul_le_mul_right _ hroom)
     rw [hr2] at hr
     injection hr with e5 _
     injection e5 with e6 _ _
     exact .inl (by rw [← e6])
    ·have hr2:=run_append_grow (P:=P) w t ty u i z h1 hi hz ⟨g,0,none⟩ xs.length c (xs.flatMap e.enc) (by rw [hs1];exact Az e xs) (fun j v hv=>by rw [addr_add];exact hown.sl.flat j v hv) a ys.length c2 (ys.flatMap e.enc) (by rw [hs1];exact Az e ys) hn (by omega) (by omega) (growslice_fits (by omega) (by rw [hb1];exact hlen))
     rw [hr2] at hr
     injection hr with e5 _
     injection e5 with e6 _ _
     exact .inr (fun k hk=>by rw [← e6] at hk;simp [blk] at hk;omega)
  ·have e1:Value.ownBlock (.slice p xs.length c)=blk p:=by cases p <;> rfl
   rw [e1] at h3
   exact h3
theorem ZaC {α:Type} {e:Enc α} {B:Nat} {xs ys:List α} {q:Option Addr} {c2:Nat} (hu:Ab P t u sz by_) (hx:E.look x=some (.slice p xs.length c)) (hy:E.look y=some (.slice q ys.length c2)) (hown:Go.V.Own w B u e p c xs) (hsl:Sl w.heap e q c2 ys)
  (hsz:e.sz=sz) (hB:B≤w.heap.size) (hlen:(xs.length+ys.length) * by_≤140737488355328) (hmax:xs.length+ys.length≤9223372036854775807)
  (he:Am P dr.1 ⟨d,.call ⟨.builtin .append,#[x,y],#[t,t]⟩,ty,pos,af,g⟩=true) (hw:writes dr.1 ⟨d,.call ⟨.builtin .append,#[x,y],#[t,t]⟩,ty,pos,af,g⟩=true) (hd:Ah n d=true)
  (h:∀p' c' w',Go.V.Own w' B u e p' c' (xs++ys)→w.grownBy w' (blk p)→BK w p p'→G P n ops dr l (E.put d (.slice p' (xs++ys).length c')) w' K):G1 P n ops dr ⟨d,.call ⟨.builtin .append,#[x,y],#[t,t]⟩,ty,pos,af,g⟩ l E w K:=by
 obtain ⟨p',c',w',hr,h1,h2,h3⟩:=Qd hu hsz hB hown hsl hlen hmax ty
 exact Zs _ w' he hd (fun a ha=>by simp [execOp,resolve,invoke,builtin,ha.eval hx,ha.eval hy,hr]) (.inl hw) (h p' c' w' h1 h2 h3)
theorem Q45 {α:Type} {e:Enc α} {B:Nat} {xs:List α} {ys:List α} {q:Option Addr} {c2:Nat} (hu:Ab P t u sz by_) (hown:Go.V.Own w B u e p c xs) (hsl:Sl w.heap e q c2 ys) (h:∀p' c' w',Go.V.Own w' B u e p' c' (xs++ys)→w.grownBy w' (blk p)→BK w p p'→G P n ops dr l (E.put d (.slice p' (xs++ys).length c')) w' K) (hx:E.look x=some (.slice p xs.length c):=by exact rfl) (hy:E.look y=some (.slice q ys.length c2):=by exact rfl) (hsz:e.sz=sz:=by exact rfl) (hB:B≤w.heap.size:=by omega) (hlen:(xs.length+ys.length) * by_≤140737488355328:=by (simp;omega)) (hmax:xs.length+ys.length≤9223372036854775807:=by (simp;omega)) (he:Am P dr.1 ⟨d,.call ⟨.builtin .append,#[x,y],#[t,t]⟩,ty,pos,af,g⟩=true:=by exact rfl) (hw:writes dr.1 ⟨d,.call ⟨.builtin .append,#[x,y],#[t,t]⟩,ty,pos,af,g⟩=true:=by exact rfl) (hd:Ah n d=true:=by exact rfl):G1 P n ops dr ⟨d,.call ⟨.builtin .append,#[x,y],#[t,t]⟩,ty,pos,af,g⟩ l E w K:=ZaC hu hx hy hown hsl hsz hB hlen hmax he hw hd h
theorem Q12 {α:Type} (e:Enc α) (el:α) (hu:Ab P t u sz by_) (h:∀p' w',p'=some ⟨w.heap.size,0,none⟩→Sl w'.heap e p' 1 [el]→Blk w'.heap w.heap.size u (e.enc el)→Ext w w'→w'.heap.size=w.heap.size+1→G P n ops dr l (E.put d (.slice p' [el].length 1)) w' K) (hx:E.look x=some v:=by exact rfl) (hc:v.cells.toList=e.enc el:=by exact rfl) (hsz:e.sz=sz:=by exact rfl) (hs24:sz≤1000:=by decide) (he:Am P dr.1 ⟨d,.buildSlice t 1 #[(0,x)],ty,pos,af,g⟩=true:=by exact rfl) (hd:Ah n d=true:=by exact rfl):G1 P n ops dr ⟨d,.buildSlice t 1 #[(0,x)],ty,pos,af,g⟩ l E w K:=by
 subst hsz
 have hpos:=e.pos
 obtain ⟨h1,i,z,hi,hs1,hb1,hz,hz2⟩:=hu
 have hvs:v.cells.size=e.sz:=by rw [← e.len el,← hc];simp
 have hve:v.cells=(e.enc el).toArray:=by rw [← hc]
 have hB:Blk (w.alloc (.cells (e.enc el).toArray u)).heap w.heap.size u (e.enc el):=by unfold Blk;exact heap_alloc_new w _
 refine Zs _ (w.alloc (.cells (e.enc el).toArray u)) he hd (fun a ha=>?_) (.inr (Ext.alloc Ext.rfl' _).toS) (h _ _ rfl ?_ hB (Ext.alloc Ext.rfl' _) (by simp))
 ·have hfill:∀cells:Array Value,cells.size=e.sz→Instr.fill (fun i=>some (i * e.sz,e.sz)) cells [(0,v)]=some (e.enc el).toArray:=by
   intro cells hcs
   simp only [Instr.fill,hvs,Nat.zero_mul,Nat.zero_add,hcs]
   simp only [ne_eq,not_true_eq_false,decide_false,Bool.false_or,gt_iff_lt,Nat.lt_irrefl,Bool.false_eq_true,if_false,Option.some.injEq]
   rw [hve]
   apply Array.ext'
   rw [← Array.foldl_toList]
   have key:∀(l:List Value) (k:Nat) (cs:Array Value),k+l.length≤cs.size →
     ((l.zipIdx k).foldl (fun cs (x:Value × Nat)=>cs.setIfInBounds x.2 x.1) cs).toList=cs.toList.take k++l++cs.toList.drop (k+l.length):=by
    intro l
    induction l with
    | nil=>intro k cs _;simp
    | cons y l ih =>
     intro k cs hk
     simp only [List.length_cons] at hk
     rw [List.zipIdx_cons,List.foldl_cons,ih (k+1) _ (by simp;omega)]
     apply List.ext_getElem?
     intro j
     simp only [Array.toList_setIfInBounds]
     simp only [List.getElem?_append,List.getElem?_take,List.getElem?_drop,List.length_take,List.length_append,List.length_cons,List.getElem?_set,List.length_set,Array.length_toList,List.getElem?_cons]
     by_cases hj:j<k
     ·simp [hj,show j<min k cs.size by omega,show j<min (k+1) cs.size+l.length by omega,show j<min (k+1) cs.size by omega,show j<k+1 by omega,show k≠j by omega,show j<min k cs.size+(l.length+1) by omega]
     ·by_cases hj2:j=k
      ·subst hj2
       simp [show j<min (j+1) cs.size by omega,show j<min (j+1) cs.size+l.length by omega,show j<cs.size by omega,show ¬j<min j cs.size by omega,show j<min j cs.size+(l.length+1) by omega,show j - min j cs.size=0 by omega]
      ·have e1:min (k+1) cs.size=k+1:=by omega
       have e2:min k cs.size=k:=by omega
       rw [e1,e2]
       have e3:k+(l.length+1)=k+1+l.length:=by omega
       simp only [show ¬j<k+1 by omega,show ¬j<k by omega,if_false,e3]
       by_cases hj3:j<k+1+l.length
       ·simp [hj3,show j - k≠0 by omega,show j - k - 1=j - (k+1) by omega]
       ·have e4:k+1+l.length+(j - (k+1+l.length))=j:=by omega
        simp [hj3,e4,show k≠j by omega]
   have:=key (e.enc el) 0 cells (by rw [e.len];omega)
   simp only [List.take_zero,List.nil_append,Nat.zero_add,e.len] at this
   have hdrop:cells.toList.drop e.sz=[]:=by rw [List.drop_eq_nil_iff];simp [hcs]
   rw [hdrop,List.append_nil] at this
   simpa using this
  have hcells:((Array.range (1 * e.sz)).map (z.cells[· % z.cells.size]!)).size=e.sz:=by simp
  simp only [execOp,Instr.buildSlice,Sem.run_bind,run_underlying h1,Result.andThen_ok,sizeOf,typeInfo,run_program,hi,Sem.run_pure,hs1,zeroValue]
  have h24:¬(1 * e.sz > 2 ^ 24):=by omega
  have h0:¬(1 * e.sz=0):=by omega
  simp only [h24,h0,if_false,Sem.run_pure,Result.andThen_ok,Sem.run_bind,run_program,hi,hz]
  simp only [List.map_toArray,List.map_cons,List.map_nil,ha.eval hx]
  rw [hfill _ hcells]
  simp [newRow,newObj,Sem.run]
 ·refine ⟨⟨by simp,by simp [maxLen],(fun h=>by cases h),(fun a ha _=>by simp at ha;rw [← ha])⟩,fun i' x' hi' k' v' hv'=>?_⟩
  have:i'=0:=by have:=AR hi';simp at this;omega
  subst this
  simp at hi'
  subst hi'
  simpa using hB.cell hv'
theorem Q46 {α:Type} (e:Enc α) (hu:Ab P t u sz by_) (h:∀p' w',Go.V.Own w' w.heap.size u e p' 0 []→Ext w w'→w'.heap.size=w.heap.size+1→G P n ops dr l (E.put d (.slice p' ([]:List α).length 0)) w' K) (he:Am P dr.1 ⟨d,.buildSlice t 0 #[],ty,pos,af,g⟩=true:=by exact rfl) (hd:Ah n d=true:=by exact rfl):G1 P n ops dr ⟨d,.buildSlice t 0 #[],ty,pos,af,g⟩ l E w K:=by
 obtain ⟨h1,i,z,hi,hs1,hb1,hz,hz2⟩:=hu
 refine Zs _ (w.alloc (.cells #[] u)) he hd (fun a ha=>?_) (.inr (Ext.alloc Ext.rfl' _).toS) (h (some ⟨w.heap.size,0,none⟩) _ ?_ (Ext.alloc Ext.rfl' _) (by simp))
 ·simp [execOp,Instr.buildSlice,run_underlying h1,sizeOf,typeInfo,hi,Instr.fill,newRow,newObj,Sem.run]
  have e0:Array.map (fun _=>(default:Value)) (Array.range 0)=#[]:=by simp
  rw [e0]
 ·exact World.ownsRow_made w #[] 0 (Nat.le_refl _) (by simp [maxLen]) (by simp)
theorem Own.base {α:Type} {e:Enc α} {w:World} {B B' T:Nat} {p:Option Addr} {c:Nat} {xs:List α} (h:Own w B T e p c xs) (hb:B'≤B):Own w B' T e p c xs:=by
 obtain ⟨h1,h2⟩:=h
 refine ⟨h1,?_⟩
 rcases h2 with h2|⟨g,cap,cur,h3,h4,h5⟩
 ·exact .inl h2
 ·exact .inr ⟨g,cap,cur,h3,Nat.le_trans hb h4,h5⟩
theorem Own.ne {α:Type} {e:Enc α} {w:World} {B T:Nat} {p:Option Addr} {c:Nat} {xs:List α} (h:Own w B T e p c xs) {b:Nat} (hb:b<B):∀a,p=some a→some b≠some a.block:=by
 rintro a rfl e
 have:=(h.ge a.block rfl).1
 simp only [Option.some.injEq] at e
 omega
theorem Sl.ne {α:Type} {e:Enc α} {H:Array Obj} {p:Option Addr} {c:Nat} {xs:List α} (h:Sl H e p c xs) {b:Nat} (hb:H.size≤b):∀a,p=some a→xs≠[]→some b≠some a.block:=by
 rintro a rfl hne e'
 obtain ⟨x,hx⟩:=Aj (xs:=xs) (k:=0) (by cases xs <;> simp_all)
 have hlen:0<(e.enc x).length:=by rw [e.len];exact e.pos
 have:=Dm (h.cell 0 x hx 0 _ (List.getElem?_eq_getElem hlen))
 simp only [adr] at this
 simp only [Option.some.injEq] at e'
 omega
theorem Enc.oneAgg {α:Type} (e:Enc α) (x:α):∀v∈(Value.agg (e.enc x).toArray).cells.toList,v.oneCell'=true:=e.one x
def JP:Enc (ByteArray × ByteArray):=⟨2,fun p=>[.string p.1,.string p.2],fun _=>rfl,fun _ v hv=>by simp at hv;rcases hv with rfl|rfl <;> rfl,by decide⟩
def Ar:Enc ByteArray:=⟨1,fun p=>[.string p],fun _=>rfl,fun _ v hv=>by simp at hv;rw [hv];rfl,by decide⟩
def Ph:Enc (Int × ByteArray):=⟨2,fun p=>[.int .i64 p.1,.string p.2],fun _=>rfl,fun _ v hv=>by simp at hv;rcases hv with rfl|rfl <;> rfl,by decide⟩
def He:Enc Int:=⟨1,fun p=>[.int .i64 p],fun _=>rfl,fun _ v hv=>by simp at hv;rw [hv];rfl,by decide⟩
def Ai:Enc UInt8:=⟨1,fun p=>[.int .u8 p.toNat],fun _=>rfl,fun _ v hv=>by simp at hv;rw [hv];rfl,by decide⟩
attribute [irreducible] BK
structure App {α:Type} (w w':World) (B T:Nat) (e:Enc α) (p p':Option Addr) (c':Nat) (xs:List α):Prop where
 own:Go.V.Own w' B T e p' c' xs
 grown:w.grownBy w' (blk p)
 new:BK w p p'
 base:B≤w'.heap.size
variable {w1 w2 : World} {B T : Nat} {p1 p2 : Option Addr} {c1 c2 : Nat} {ys : List α}
theorem App.refl (h:Go.V.Own w B T e p c xs) (hB:B≤w.heap.size):App w w B T e p p c xs:=⟨h,⟨rfl,rfl,rfl,Nat.le_refl _,fun _ _ _=>rfl⟩,by unfold BK;exact .inl rfl,hB⟩
theorem App.ext (h:App w w1 B T e p p1 c1 xs) (hx:Ext w1 w2):App w w2 B T e p p1 c1 xs:=⟨h.own.ext hx,RJ h.grown hx,h.new,Nat.le_trans h.base hx.size⟩
theorem App.trans (h:App w w1 B T e p p1 c1 xs) (k:App w1 w2 B T e p1 p2 c2 ys):App w w2 B T e p p2 c2 ys:=⟨k.own,CG h.grown h.new k.grown,h.new.trans h.grown.size k.new,k.base⟩
theorem App.below (h:App w w1 B T e p p1 c1 xs) (hp:∀k,blk p=some k→B≤k) (hB:B≤w.heap.size):Below B w w1 :=
 ⟨h.grown.os,h.grown.tape,h.grown.output,h.grown.size,fun k hk=>h.grown.block k (by omega) (fun e=>by have:=hp k e.symm;omega)⟩
theorem Ext.app {w0:World} (hx:Ext w0 w) (h:App w w1 B T e p p1 c1 xs) (hp:∀k,V.blk p=some k→w0.heap.size≤k):Ext w0 w1:=hx.own h.grown hp
theorem App.sl (h:App w w1 B T e p p1 c1 xs):Sl w1.heap e p1 c1 xs:=h.own.sl
theorem Own.at {α:Type} {e:Enc α} {w:World} {B T:Nat} {p:Option Addr} {c:Nat} {xs:List α} (h:Own w B T e p c xs) {k:Nat} (hk:blk p=some k):∃cur,w.heap[k]?=some (.cells cur T (0,0)):=by
 rcases h.2 with ⟨hv,_⟩|⟨g,cap,cur,hv,_,hg,_⟩
 ·injection hv with e1 _ _;subst e1;cases hk
 ·injection hv with e1 _ _;subst e1
  simp only [blk,Option.some.injEq] at hk
  subst hk
  exact ⟨cur,hg⟩
theorem Own.neT {α β:Type} {e:Enc α} {e':Enc β} {w:World} {B B' T T':Nat} {p p':Option Addr} {c c':Nat} {xs:List α} {ys:List β} (h:Own w B T e p c xs) (k:Own w B' T' e' p' c' ys) (hT:T≠T'):∀a,p'=some a→blk p≠some a.block:=by
 rintro a rfl hb
 obtain ⟨cur,h1⟩:=h.at hb
 obtain ⟨cur',h2⟩:=k.at (k:=a.block) rfl
 rw [h1] at h2
 simp at h2
 exact hT h2.2
theorem Own.neB {α:Type} {e:Enc α} {w:World} {B T T' b:Nat} {p:Option Addr} {c:Nat} {xs:List α} {cs:List Value} (h:Own w B T e p c xs) (k:Blk w.heap b T' cs) (hT:T≠T'):blk p≠some b:=by
 intro hb
 obtain ⟨cur,h1⟩:=h.at hb
 unfold Blk at k
 rw [h1] at k
 simp at k
 exact hT k.2
theorem Q16 {α:Type} {e:Enc α} {B:Nat} {xs:List α} {ys:List α} {q:Option Addr} {c2:Nat} (hu:Ab P t u sz by_) (hown:Go.V.Own w B u e p c xs) (hsl:Sl w.heap e q c2 ys) (h:∀p' c' w',App w w' B u e p p' c' (xs++ys)→G P n ops dr l (E.put d (.slice p' (xs++ys).length c')) w' K) (hx:E.look x=some (.slice p xs.length c):=by exact rfl) (hy:E.look y=some (.slice q ys.length c2):=by exact rfl) (hsz:e.sz=sz:=by exact rfl) (hB:B≤w.heap.size:=by omega) (hlen:(xs.length+ys.length) * by_≤140737488355328:=by (simp only [List.length_cons,List.length_nil];omega)) (hmax:xs.length+ys.length≤9223372036854775807:=by (simp only [List.length_cons,List.length_nil];omega)) (he:Am P dr.1 ⟨d,.call ⟨.builtin .append,#[x,y],#[t,t]⟩,ty,pos,af,g⟩=true:=by exact rfl) (hw:writes dr.1 ⟨d,.call ⟨.builtin .append,#[x,y],#[t,t]⟩,ty,pos,af,g⟩=true:=by exact rfl) (hd:Ah n d=true:=by exact rfl):G1 P n ops dr ⟨d,.call ⟨.builtin .append,#[x,y],#[t,t]⟩,ty,pos,af,g⟩ l E w K :=
 ZaC hu hx hy hown hsl hsz hB hlen hmax he hw hd (fun p' c' w' h1 h2 h3=>h p' c' w' ⟨h1,h2,h3,Nat.le_trans hB h2.size⟩)
theorem Fb (s:ByteArray):byteCells s=s.data.toList.flatMap Ai.enc:=by
 unfold byteCells
 rw [List.flatMap_def]
 simp only [Ai]
 induction s.data.toList with
 | nil=>rfl
 | cons a l ih=>simp [ih]
theorem FH (hu:Ab P t u 1 by_) (hk:Ap P t') (ty:TypeId) (gb sLen sCap:Nat) (cur:Array Value) (hg:w.heap[gb]?=some (.cells cur u (0,0))) (s:ByteArray) (hroom:sLen+s.size≤sCap) (hfit:sLen+s.size≤cur.size) :
  (Builtin.append_ #[t,t'] ty #[.slice (some ⟨gb,0,none⟩) sLen sCap,.string s]).run P w =
   .ok (.slice (some ⟨gb,0,none⟩) (sLen+s.size) sCap) (w.setRow gb (cur.toList.take sLen++byteCells s++cur.toList.drop (sLen+s.size)).toArray):=by
 obtain ⟨h1,i,z,hi,hs1,hb1,hz,hz2⟩:=hu
 have hst:=run_storeCells_at P gb sLen u (byteCells s) 0 cur w hg (by rw [byteCells_length];simpa using hfit) (fun u hu=>by rw [Fb] at hu;exact Cg Ai _ u hu)
 simp only [Nat.add_zero,byteCells_length] at hst
 simp [Builtin.append_,run_underlying h1,run_underlying (P:=P) hk,sizeOf,typeInfo,hi,hs1,Builtin.lenOf,hroom,firstCells_string,addr_add,hst]
theorem Ky {B:Nat} {xs:List UInt8} (hu:Ab P t u 1 by_) (hk:Ap P t') (hB:B≤w.heap.size) (hown:Go.V.Own w B u Ai p c xs) (s:ByteArray)
  (hlen:(xs.length+s.size) * by_≤140737488355328) (hmax:xs.length+s.size≤9223372036854775807) (ty:TypeId) :
  ∃p' c' w',(Builtin.append_ #[t,t'] ty #[.slice p xs.length c,.string s]).run P w=.ok (.slice p' (xs++s.data.toList).length c') w'∧App w w' B u Ai p p' c' (xs++s.data.toList):=by
 have hu':=hu
 obtain ⟨h1,i,z,hi,hs1,hb1,hz,hz2⟩:=hu
 have hbc:=byteCells_length s
 have hsl:s.data.toList.length=s.size:=by rw [Array.length_toList];rfl
 have hlenE:(xs++s.data.toList).length=xs.length+s.size:=by rw [List.length_append,hsl]
 have hflatE:(xs++s.data.toList).flatMap Ai.enc=xs.flatMap Ai.enc++byteCells s:=by rw [List.flatMap_append,Fb]
 have grow:∀(olds:List Value) (base:Option Addr) (cap:Nat),olds=xs.flatMap Ai.enc→(Builtin.firstCells i.size xs.length (.slice base xs.length cap)).run P w.drew=.ok olds.toArray w.drew→cap<xs.length+s.size→base=p→cap=c →
   ∃p' c' w',(Builtin.append_ #[t,t'] ty #[.slice p xs.length c,.string s]).run P w=.ok (.slice p' (xs++s.data.toList).length c') w'∧App w w' B u Ai p p' c' (xs++s.data.toList):=by
  intro olds base cap ho hold hcap hb hc
  subst hb hc ho
  have hr:=run_append_grow_src (P:=P) (w:=w) t t' ty u i z h1 hi hz base xs.length cap (xs.flatMap Ai.enc) hold (.string s) s.size (byteCells s) (by rw [hs1];exact Src.ofString w hk s) hcap (by omega) (by rw [hb1];exact growslice_fits hcap hlen)
  have hge:=grownCap_ge w (xs.length+s.size) cap u
  have hcm:grownCap w (xs.length+s.size) cap u≤maxLen:=grownCap_le_maxLen w _ cap u (by simp only [maxLen];omega)
  refine ⟨_,_,_,by rw [hlenE];exact hr,?_,?_,?_,?_⟩
  ·unfold Go.V.Own
   rw [hlenE,hflatE]
   refine ⟨by rw [List.length_append,Az,byteCells_length];simp [Ai],.inr ⟨w.heap.size,_,_,rfl,hB,heap_alloc_new w.drew _,hge,hcm,?_,?_⟩⟩
   ·simp only [Array.size_append,List.size_toArray,size_zeroCells,hz2,List.length_append,Az,byteCells_length]
    simp [Ai];omega
   ·simp only [Array.toList_append]
    rw [List.take_left' (by rw [List.length_append,Az,byteCells_length];simp [Ai])]
  ·exact ⟨rfl,rfl,rfl,by simp,fun k hk _=>Below.heap_alloc w.drew _ k hk⟩
  ·unfold BK;exact .inr (fun k hk=>by simp [blk] at hk;omega)
  ·simp;omega
 rcases hown.2 with ⟨hv,hn⟩|⟨gb,cap,cur,hv,hbg,hg,hnc,hcm,hcs,htake⟩
 ·injection hv with e1 e2 e3
  subst e1 e3
  obtain rfl:xs=[]:=List.eq_nil_of_length_eq_zero hn
  by_cases hs0:s.size=0
  ·have hse:s.data.toList=[]:=List.eq_nil_of_length_eq_zero (by rw [hsl,hs0])
   refine ⟨none,0,w,?_,?_⟩
   ·rw [hse]
    simp [Builtin.append_,run_underlying h1,run_underlying (P:=P) hk,sizeOf,typeInfo,hi,Builtin.lenOf,hs0,Builtin.firstCells]
   ·rw [hse];exact App.refl (Own.nil _ _ _ _) hB
  ·exact grow [] none 0 rfl (by simp [Builtin.firstCells]) (by simp;omega) rfl rfl
 ·injection hv with e1 e2 e3
  subst e1 e3
  by_cases hroom:xs.length+s.size≤c
  ·have hfit:xs.length+s.size≤cur.size:=by rw [hcs];simp [Ai];omega
   have hr:=FH hu' hk ty gb xs.length c cur hg s hroom hfit
   refine ⟨_,_,_,by rw [hlenE];exact hr,?_,?_,?_,?_⟩
   ·unfold Go.V.Own
    rw [hlenE,hflatE]
    refine ⟨by rw [List.length_append,Az,byteCells_length];simp [Ai],.inr ⟨gb,c,_,rfl,hbg,setRow_heap w gb cur _ u _ hg,hroom,hcm,?_,?_⟩⟩
    ·simp only [List.size_toArray,List.length_append,List.length_take,List.length_drop,Array.length_toList,byteCells_length]
     rw [← hcs];omega
    ·have htake':cur.toList.take xs.length=xs.flatMap Ai.enc:=by
      rw [← htake];simp [Ai]
     rw [htake']
     simp only [List.append_assoc]
     rw [← List.append_assoc,List.take_left' (by rw [List.length_append,Az,byteCells_length];simp [Ai])]
   ·exact Co w gb _
   ·unfold BK;exact .inl rfl
   ·simpa using hB
  ·exact grow (xs.flatMap Ai.enc) _ c rfl (by
    have:=run_firstCells_some (P:=P) w.drew i.size xs.length ⟨gb,0,none⟩ xs.length c (xs.flatMap Ai.enc) (by rw [hs1,Az];simp [Ai]) (fun j v hv=>by rw [addr_add];exact hown.sl.flat j v hv)
    exact this) (by omega) rfl rfl
theorem Q43 {B:Nat} {xs:List UInt8} {s:ByteArray} (hu:Ab P t u 1 by_) (hk:Ap P t') (hown:Go.V.Own w B u Ai p c xs) (hB:B≤w.heap.size) (h:∀p' c' w',App w w' B u Ai p p' c' (xs++s.data.toList)→G P n ops dr l (E.put d (.slice p' (xs++s.data.toList).length c')) w' K) (hx:E.look x=some (.slice p xs.length c):=by exact rfl) (hy:E.look y=some (.string s):=by exact rfl) (hlen:(xs.length+s.size) * by_≤140737488355328) (hmax:xs.length+s.size≤9223372036854775807) (he:Am P dr.1 ⟨d,.call ⟨.builtin .append,#[x,y],#[t,t']⟩,ty,pos,af,g⟩=true:=by exact rfl) (hw:writes dr.1 ⟨d,.call ⟨.builtin .append,#[x,y],#[t,t']⟩,ty,pos,af,g⟩=true:=by exact rfl) (hd:Ah n d=true:=by exact rfl):G1 P n ops dr ⟨d,.call ⟨.builtin .append,#[x,y],#[t,t']⟩,ty,pos,af,g⟩ l E w K:=by
 obtain ⟨p',c',w',hr,h1⟩:=Ky hu hk hB hown s hlen hmax ty
 exact Zs _ w' he hd (fun a ha=>by simp [execOp,resolve,invoke,builtin,ha.eval hx,ha.eval hy,hr]) (.inl hw) (h p' c' w' h1)
theorem Pn (l:List UInt8):∀s:ByteArray,(l.map (fun b:UInt8=>((b.toNat:Nat):Int))).foldl (fun r (n:Int)=>r.push (UInt8.ofNat n.toNat)) s=⟨s.data++l.toArray⟩:=by
 induction l with
 | nil=>intro s;cases s;simp
 | cons a l ih =>
  intro s
  rw [List.map_cons,List.foldl_cons,ih]
  cases s
  simp [ByteArray.push]
def Af (l:List UInt8):ByteArray:=⟨l.toArray⟩
theorem MZ {bs:List UInt8} (hu:Ab P t u 1 by_) (hi:Ao P u .u8) (hd:Ap P t') (hs:Sl w.heap Ai p c bs):(convert t t' (.slice p bs.length c)).run P w=.ok (.string (Af bs)) w:=by
 rw [run_convert_bytes_string w t t' u p bs.length c hu.1 hi hd]
 cases p with
 | none =>
  have h1:=hs.ok.nul rfl
  have h2:=hs.ok.le
  obtain rfl:bs=[]:=List.eq_nil_of_length_eq_zero (by omega)
  simp [Conv.bytesToString,Af];rfl
 | some a =>
  have hn:∀j v,(bs.flatMap Ai.enc)[j]?=some v→w.cell? (a.add j)=some v:=by
   intro j v hv
   have hne:0<bs.length:=by cases bs <;> simp_all
   have hspot:=hs.ok.spot a rfl (by have:=hs.ok.le;omega)
   have hc:=hs.flat j v hv
   obtain ⟨b,o,s⟩:=a
   simp only at hspot
   subst hspot
   rw [addr_add];exact hc
  have hl:(loadCells a bs.length).run P w=.ok ((bs.map (fun b:UInt8=>((b.toNat:Nat):Int))).map (Value.int .u8)).toArray w:=by
   have e1:(bs.map (fun b:UInt8=>((b.toNat:Nat):Int))).map (Value.int .u8)=bs.flatMap Ai.enc:=by
    rw [List.map_map,List.flatMap_def]
    simp only [Ai]
    clear hs hn
    induction bs with
    | nil=>rfl
    | cons a l ih=>simp [ih]
   rw [e1]
   have:=run_loadCells_list (P:=P) w a (bs.flatMap Ai.enc) hn
   rw [Az] at this
   simpa [Ai] using this
  rw [run_bytesToString w _ _ _ _ hl,Pn]
  simp [Af]
theorem Zaq {bs:List UInt8} (hu:Ab P t u 1 by_) (hi:Ao P u .u8) (hk:Ap P t') (hx:E.look x=some (.slice p bs.length c)) (hs:Sl w.heap Ai p c bs) (hd:Ah n d=true)
  (h:G P n ops (dq,[]) l (E.put d (.string (Af bs))) w K):G1 P n ops (dq,[]) ⟨d,.convert t t' x,ty,pos,af,g⟩ l E w K :=
 Zd _ hd (fun a ha w' hw=>by simp [execOp,ha.eval hx,MZ hu hi hk (hs.ext (Ej hw rfl))]) h
theorem Q94 {bs:List UInt8} (hu:Ab P t u 1 by_) (hi:Ao P u .u8) (hk:Ap P t') (hs:Sl w.heap Ai p c bs) (h:G P n ops (dq,[]) l (E.put d (.string (Af bs))) w K) (hx:E.look x=some (.slice p bs.length c):=by exact rfl) (hd:Ah n d=true:=by exact rfl):G1 P n ops (dq,[]) ⟨d,.convert t t' x,ty,pos,af,g⟩ l E w K:=Zaq hu hi hk hx hs hd h
theorem Q26 {k2:IntKind} (hs:Ao P t k') (ht:Ao P t' k2) (h:G P n ops dr l (E.put d (.int k2 j)) w K) (hx:E.look x=some (.int k i):=by exact rfl) (hv:k2.wrap i=j:=by exact rfl) (hd:Ah n d=true:=by exact rfl):G1 P n ops dr ⟨d,.convert t t' x,ty,pos,af,g⟩ l E w K :=
 Zab hx hs ht hd (by rw [hv];exact h)
def Env.parts (E:Env):List (Nat × Operand)→Option (List (Nat × Value))
 | []=>some []
 | (i,x) :: xs=>match E.look x,Env.parts E xs with
  | some v,some vs=>some ((i,v) :: vs)
  | _,_=>none
theorem Holds.parts {a:Act} (h:Holds n E a):∀{xs:List (Nat × Operand)} {vs:List (Nat × Value)},E.parts xs=some vs→xs.map (fun (i,x)=>(i,a.eval x))=vs
 | [],vs,hx=>by simpa [Env.parts] using hx
 | (i,x) :: xs,vs,hx=>by
  simp only [Env.parts] at hx
  split at hx
  ·rename_i v us h1 h2
   obtain rfl:(i,v) :: us=vs:=by simpa using hx
   simp [h.eval h1,h.parts h2]
  ·simp at hx
theorem Zi {parts:Array (Nat × Operand)} {ps:List (Nat × Value)} (v:Value) (hp:E.parts parts.toList=some ps) (hr:∀w,(Instr.build t ps.toArray).run P w=.ok v w) (hd:Ah n d=true)
  (h:G P n ops dr l (E.put d v) w K):G1 P n ops dr ⟨d,.build t parts,ty,pos,af,g⟩ l E w K :=
 Zd v hd (fun a ha w' _=>by
  have hm:(parts.map fun (i,x)=>(i,a.eval x))=ps.toArray:=by
   rw [← ha.parts hp];apply Array.ext';simp
  simp only [execOp,hm]
  simp [hr w']) h
theorem Q20 {parts:Array (Nat × Operand)} {ps:List (Nat × Value)} (v:Value) (hr:∀w,(Instr.build t ps.toArray).run P w=.ok v w) (h:G P n ops dr l (E.put d v) w K) (hp:E.parts parts.toList=some ps:=by exact rfl) (hd:Ah n d=true:=by exact rfl):G1 P n ops dr ⟨d,.build t parts,ty,pos,af,g⟩ l E w K:=Zi v hp hr hd h
theorem NI {α:Type} (e:Enc α) (el':α) (off:Nat) (v:Value):∀(xs:List α) (q:Nat) (el:α),xs[q]?=some el→e.enc el'=(e.enc el).set off v→off<e.sz →
  (xs.flatMap e.enc).set (q * e.sz+off) v=(xs.set q el').flatMap e.enc
 | [],q,el,h,_,_=>by simp at h
 | x :: xs,0,el,h,he,ho=>by
  simp at h;subst h
  rw [List.set_cons_zero,List.flatMap_cons,List.flatMap_cons,Nat.zero_mul,Nat.zero_add,List.set_append_left _ _ (by rw [e.len];exact ho),he]
 | x :: xs,q+1,el,h,he,ho=>by
  simp at h
  rw [List.set_cons_succ,List.flatMap_cons,List.flatMap_cons,List.set_append_right _ _ (by rw [e.len,Nat.add_mul];omega),e.len]
  have e1:(q+1) * e.sz+off - e.sz=q * e.sz+off:=by rw [Nat.add_mul];omega
  rw [e1,NI e el' off v xs q el h he ho]
theorem take_set {l:List Value} {n i:Nat} {v:Value} (hi:i<n) (hn:n≤l.length):(l.take i++[v]++l.drop (i+1)).take n=(l.take n).set i v:=by
 apply List.ext_getElem?
 intro j
 simp only [List.getElem?_take,List.getElem?_append,List.getElem?_drop,List.length_append,List.length_take,List.length_cons,List.length_nil,List.getElem?_set,List.getElem?_cons]
 by_cases hj:j<n
 ·by_cases h1:j<i
  ·simp [hj,h1,show j<min i l.length by omega,show j<min i l.length+1 by omega,show i≠j by omega]
  ·by_cases h2:j=i
   ·subst h2;simp [hj,show j<min n l.length by omega,show min j l.length=j by omega]
   ·simp [hj,show min i l.length=i by omega,show ¬j<i+1 by omega,show i≠j by omega,show i+1+(j - (i+1))=j by omega]
 ·simp [hj];intro h;omega
theorem Q42 {α:Type} {e:Enc α} {B:Nat} {T:Nat} {xs:List α} {q:Nat} {off:Nat} {el:α} (el':α) (hsz:Ad P t 1) (hown:Go.V.Own w B T e p c xs) (hq:xs[q]?=some el) (h:∀w',App w w' B T e p p c (xs.set q el')→w'.heap.size=w.heap.size→G P n ops dr l (E.put d undef) w' K) (hx:E.look x=some (.pointer (some (adr p m))):=by exact rfl) (hy:E.look y=some v:=by exact rfl) (hm:m=q * e.sz+off:=by exact rfl) (hel:e.enc el'=(e.enc el).set off v:=by exact rfl) (hoff:off<e.sz:=by decide) (hc:v.cells=#[v]:=by exact rfl) (h1:v.oneCell'=true:=by exact rfl) (hB:B≤w.heap.size:=by omega) (he:Am P dr.1 ⟨d,.store t x y,ty,pos,af,g⟩=true:=by exact rfl) (hw:writes dr.1 ⟨d,.store t x y,ty,pos,af,g⟩=true:=by exact rfl) (hd:Ah n d=true:=by exact rfl):G1 P n ops dr ⟨d,.store t x y,ty,pos,af,g⟩ l E w K:=by
 have hlt:=AR hq
 obtain ⟨i0,hi0,hs0⟩:=hsz
 rcases hown.2 with ⟨_,hn⟩|⟨gb,cap,cur,hv,hbg,hg,hnc,hcm,hcs,htake⟩
 ·omega
 ·injection hv with e1 e2 e3
  subst e1 e3
  have hmlt:m<xs.length * e.sz:=by
   subst hm
   have:q * e.sz+e.sz≤xs.length * e.sz:=by
    have:=Nat.mul_le_mul_right e.sz (show q+1≤xs.length from hlt)
    rw [Nat.add_mul] at this;omega
   omega
  have hmc:xs.length * e.sz≤cur.size:=by rw [hcs];exact Nat.mul_le_mul_right _ hnc
  have hst:=run_storeCells_at P gb m T [v] 0 cur w hg (by simp;omega) (by simp [h1])
  simp only [Nat.add_zero] at hst
  refine Zat (w.setRow gb (cur.toList.take m++[v]++cur.toList.drop (m+1)).toArray) he hd (fun a ha=>?_) (.inl hw) (h _ ?_ (by simp))
  ·simp only [execOp,Instr.storeAt,ha.eval hx,ha.eval hy,Instr.sureAddr,storeVar,sizeOf,typeInfo,Sem.run_bind,Sem.run_pure,run_program,Result.andThen_ok,hi0,hs0,hc]
   simp only [List.size_toArray,List.length_cons,List.length_nil,Nat.zero_add,ne_eq,not_true_eq_false,if_false]
   have:(storeCells (adr (some ⟨gb,0,none⟩) m) [v]).run P w=.ok () (w.setRow gb (cur.toList.take m++[v]++cur.toList.drop (m+1)).toArray):=by
    show (storeCells ⟨gb,0+m,none⟩ [v]).run P w=_
    rw [Nat.zero_add];simpa using hst
   simp [this]
  ·refine ⟨?_,Co w gb _,by unfold BK;exact .inl rfl,by simpa using hB⟩
   unfold Go.V.Own
   rw [List.length_set]
   refine ⟨by rw [Az,List.length_set],.inr ⟨gb,c,_,rfl,hbg,setRow_heap w gb cur _ T _ hg,hnc,hcm,?_,?_⟩⟩
   ·simp only [List.size_toArray,List.length_append,List.length_take,List.length_drop,Array.length_toList,List.length_cons,List.length_nil]
    rw [← hcs];omega
   ·rw [← NI e el' off v xs q el hq hel hoff,← hm,← htake]
    exact take_set hmlt (by simpa using hmc)
theorem NJ:∀(l:List Value) (off k:Nat) (cs:Array Value),off+k+l.length≤cs.size →
  ((l.zipIdx k).foldl (fun cs (x:Value × Nat)=>cs.setIfInBounds (off+x.2) x.1) cs).toList=cs.toList.take (off+k)++l++cs.toList.drop (off+k+l.length)
 | [],off,k,cs,_=>by simp
 | y :: l,off,k,cs,hk=>by
  simp only [List.length_cons] at hk
  rw [List.zipIdx_cons,List.foldl_cons,NJ l off (k+1) _ (by simp;omega)]
  apply List.ext_getElem?
  intro j
  simp only [Array.toList_setIfInBounds]
  simp only [List.getElem?_append,List.getElem?_take,List.getElem?_drop,List.length_take,List.length_append,List.length_cons,List.getElem?_set,List.length_set,Array.length_toList,List.getElem?_cons]
  by_cases hj:j<off+k
  ·simp [hj,show j<min (off+k) cs.size by omega,show j<min (off+(k+1)) cs.size+l.length by omega,show j<min (off+(k+1)) cs.size by omega,show j<off+(k+1) by omega,show off+k≠j by omega,show j<min (off+k) cs.size+(l.length+1) by omega]
  ·by_cases hj2:j=off+k
   ·subst hj2
    simp [show off+k<min (off+(k+1)) cs.size by omega,show off+k<min (off+(k+1)) cs.size+l.length by omega,show off+k<cs.size by omega,show ¬off+k<min (off+k) cs.size by omega,show off+k<min (off+k) cs.size+(l.length+1) by omega,show off+k - min (off+k) cs.size=0 by omega]
   ·have e1:min (off+(k+1)) cs.size=off+k+1:=by omega
    have e2:min (off+k) cs.size=off+k:=by omega
    rw [e1,e2]
    have e3:off+k+(l.length+1)=off+k+1+l.length:=by omega
    have e5:off+(k+1)=off+k+1:=by omega
    simp only [show ¬j<off+k+1 by omega,show ¬j<off+k by omega,if_false,e3,e5]
    by_cases hj3:j<off+k+1+l.length
    ·simp [hj3,show j - (off+k)≠0 by omega,show j - (off+k) - 1=j - (off+k+1) by omega]
    ·have e4:off+k+1+l.length+(j - (off+k+1+l.length))=j:=by omega
     simp [hj3,e4,show off+k≠j by omega]
theorem NF {α:Type} (e:Enc α):∀(ps:List (Nat × Value)) (els:List α) (k:Nat) (cells:Array Value),ps.map (·.1)=List.range' k ps.length→ps.map (fun x=>x.2.cells.toList)=els.map e.enc→(k+els.length) * e.sz≤cells.size →
  ∃r,Instr.fill (fun i=>some (i * e.sz,e.sz)) cells ps=some r∧r.toList=cells.toList.take (k * e.sz)++els.flatMap e.enc++cells.toList.drop ((k+els.length) * e.sz)
 | [],els,k,cells,_,h,_=>by
  obtain rfl:els=[]:=by cases els <;> simp_all
  exact ⟨cells,rfl,by simp⟩
 | (i,v) :: ps,[],k,cells,_,h,_=>by simp at h
 | (i,v) :: ps,el :: els,k,cells,h1,h,h2=>by
  simp only [List.map_cons,List.length_cons,List.range'_succ,List.cons.injEq] at h1 h
  obtain ⟨rfl,h1⟩:=h1
  obtain ⟨hv,h⟩:=h
  have hvs:v.cells.size=e.sz:=by rw [← e.len el,← hv];simp
  simp only [List.length_cons] at h2
  have hm:(i+(els.length+1)) * e.sz=i * e.sz+e.sz+els.length * e.sz:=by rw [Nat.add_mul,Nat.add_mul,Nat.one_mul];omega
  have hle:i * e.sz+e.sz≤cells.size:=by rw [hm] at h2;omega
  have hfold:=NJ v.cells.toList (i * e.sz) 0 cells (by simp only [Array.length_toList,hvs];omega)
  rw [hv,e.len,Nat.add_zero] at hfold
  have hz:v.cells.zipIdx.foldl (fun cs (x:Value × Nat)=>cs.setIfInBounds (i * e.sz+x.2) x.1) cells=(v.cells.toList.zipIdx 0).foldl (fun cs (x:Value × Nat)=>cs.setIfInBounds (i * e.sz+x.2) x.1) cells:=by
   rw [← Array.foldl_toList];simp
  rw [hv] at hz
  obtain ⟨r,hr,hrl⟩:=NF e ps els (i+1) (v.cells.zipIdx.foldl (fun cs (x:Value × Nat)=>cs.setIfInBounds (i * e.sz+x.2) x.1) cells) h1 h (by
   rw [← Array.length_toList,hz,hfold]
   simp only [List.length_append,List.length_take,List.length_drop,e.len,Array.length_toList]
   have:(i+1+els.length) * e.sz=(i+(els.length+1)) * e.sz:=by congr 1;omega
   rw [this];omega)
  refine ⟨r,?_,?_⟩
  ·simp only [Instr.fill]
   rw [if_neg (by simp only [hvs];simp;omega)]
   exact hr
  ·rw [hrl,hz,hfold]
   have a1:(i+1) * e.sz=i * e.sz+e.sz:=by rw [Nat.add_mul,Nat.one_mul]
   have a2:(i+1+els.length) * e.sz=i * e.sz+e.sz+els.length * e.sz:=by rw [Nat.add_mul,Nat.add_mul,Nat.one_mul]
   rw [a1,a2]
   simp only [List.length_cons]
   rw [hm]
   have el1:=e.len el
   have l1:(cells.toList.take (i * e.sz)++e.enc el).length=i * e.sz+e.sz:=by simp [el1];omega
   rw [List.take_append_of_le_length (by rw [l1];omega),List.take_of_length_le (by rw [l1];omega),List.drop_append,List.drop_of_length_le (by rw [l1];omega),l1,List.nil_append,List.drop_drop]
   simp only [List.flatMap_cons,List.append_assoc]
   congr 4
   omega
theorem Q24 {α:Type} (e:Enc α) (els:List α) {parts:Array (Nat × Operand)} {ps:List (Nat × Value)} (hu:Ab P t u sz by_) (h:∀p' w',Go.V.Own w' w.heap.size u e p' els.length els→Ext w w'→w'.heap.size=w.heap.size+1→G P n ops dr l (E.put d (.slice p' els.length els.length)) w' K) (hx:E.parts parts.toList=some ps:=by exact rfl) (h0:ps.map (·.1)=List.range' 0 ps.length:=by exact rfl) (hc:ps.map (fun x=>x.2.cells.toList)=els.map e.enc:=by exact rfl) (hm:m=els.length:=by exact rfl) (hsz:e.sz=sz:=by exact rfl) (hpos:0<els.length:=by decide) (hs24:els.length * sz≤10000:=by decide) (he:Am P dr.1 ⟨d,.buildSlice t m parts,ty,pos,af,g⟩=true:=by exact rfl) (hd:Ah n d=true:=by exact rfl):G1 P n ops dr ⟨d,.buildSlice t m parts,ty,pos,af,g⟩ l E w K:=by
 subst hsz hm
 have hp:=e.pos
 obtain ⟨h1,i,z,hi,hs1,hb1,hz,hz2⟩:=hu
 have hnz:0<els.length * e.sz:=Nat.mul_pos hpos hp
 have hcells:((Array.range (els.length * e.sz)).map (z.cells[· % z.cells.size]!)).size=els.length * e.sz:=by simp
 obtain ⟨r,hr,hrl⟩:=NF e ps els 0 ((Array.range (els.length * e.sz)).map (z.cells[· % z.cells.size]!)) h0 hc (by rw [hcells];simp)
 have hr':r=(els.flatMap e.enc).toArray:=by
  apply Array.ext'
  rw [hrl]
  rw [List.drop_of_length_le (by simp)]
  simp
 subst hr'
 refine Zs _ (w.alloc (.cells (els.flatMap e.enc).toArray u)) he hd (fun a ha=>?_) (.inr (Ext.alloc Ext.rfl' _).toS) (h (some ⟨w.heap.size,0,none⟩) _ ?_ (Ext.alloc Ext.rfl' _) (by simp))
 ·have hm:(parts.map fun (i,x)=>(i,a.eval x))=ps.toArray:=by
   rw [← ha.parts hx];apply Array.ext';simp
  simp only [execOp,hm,Instr.buildSlice,Sem.run_bind,run_underlying h1,Result.andThen_ok,sizeOf,typeInfo,run_program,hi,Sem.run_pure,hs1,zeroValue]
  have h24:¬(els.length * e.sz > 2 ^ 24):=by omega
  have h0':¬(els.length * e.sz=0):=by omega
  simp only [h24,h0',if_false,Sem.run_pure,Result.andThen_ok,Sem.run_bind,run_program,hi,hz]
  rw [hr]
  simp [newRow,newObj,Sem.run]
 ·unfold Go.V.Own
  refine ⟨by rw [Az],.inr ⟨w.heap.size,els.length,_,rfl,Nat.le_refl _,heap_alloc_new w _,Nat.le_refl _,?_,by rw [List.size_toArray,Az],?_⟩⟩
  ·have:els.length≤els.length * e.sz:=Nat.le_mul_of_pos_right _ hp
   simp only [maxLen];omega
  ·rw [← Az];exact List.take_length
theorem Q28 {α:Type} (e:Enc α) (hu:Ab P t u sz by_) (h:∀p' w',Go.V.Own w' w.heap.size u e p' i.toNat []→Ext w w'→w'.heap.size=w.heap.size+1→G P n ops dr l (E.put d (.slice p' ([]:List α).length i.toNat)) w' K) (hx:E.look x=some (.int k 0):=by exact rfl) (hy:E.look y=some (.int k' i):=by exact rfl) (hsz:e.sz=sz:=by exact rfl) (h0:0≤i:=by omega) (h1:(by_:Int) * i≤281474976710656:=by omega) (h2:i≤9223372036854775807:=by omega) (he:Am P dr.1 ⟨d,.makeSlice t x y,ty,pos,af,g⟩=true:=by exact rfl) (hd:Ah n d=true:=by exact rfl):G1 P n ops dr ⟨d,.makeSlice t x y,ty,pos,af,g⟩ l E w K:=by
 subst hsz
 obtain ⟨hu1,inf,z,hi,hs1,hb1,hz,hz2⟩:=hu
 have hr:=run_make (P:=P) w t u inf z hu1 hi hz k k' 0 i (Int.le_refl _) h0 (by rw [hb1];exact h1) h2
 refine Zs _ _ he hd (fun a ha=>by simp only [execOp,ha.eval hx,ha.eval hy,Sem.run_bind,hr];rfl) (.inr (Ext.alloc Ext.rfl' _).toS) (h (some ⟨w.heap.size,0,none⟩) _ ?_ (Ext.alloc Ext.rfl' _) (by simp))
 exact World.ownsRow_made w _ _ (Nat.le_refl _) (by simp only [maxLen];omega) (by rw [size_madeCells,hs1])
theorem ZaJ {α:Type} (e:Enc α) (el:α) {zv:Value} (hu:Ab P t u sz by_) (hx:E.look x=some (.int k i)) (hy:E.look y=some (.int k' i)) (hsz:e.sz=sz) (hzv:Ag P u zv) (hel:zv.cells.toList=e.enc el) (h0:0≤i) (h1:(by_:Int) * i≤281474976710656) (h2:i≤9223372036854775807)
  (he:Am P dr.1 ⟨d,.makeSlice t x y,ty,pos,af,g⟩=true) (hd:Ah n d=true)
  (h:∀p' w',Go.V.Own w' w.heap.size u e p' i.toNat (List.replicate i.toNat el)→Ext w w'→w'.heap.size=w.heap.size+1→G P n ops dr l (E.put d (.slice p' (List.replicate i.toNat el).length i.toNat)) w' K) :
  G1 P n ops dr ⟨d,.makeSlice t x y,ty,pos,af,g⟩ l E w K:=by
 subst hsz
 obtain ⟨hu1,inf,z,hi,hs1,hb1,hz,hz2⟩:=hu
 have hzz:z=zv:=by unfold Ag at hzv;rw [hi] at hzv;simp only [Option.bind_some] at hzv;rw [hz] at hzv;exact Option.some.inj hzv
 subst hzz
 have hr:=run_make (P:=P) w t u inf z hu1 hi hz k k' i i h0 (Int.le_refl _) (by rw [hb1];exact h1) h2
 suffices hown:Go.V.Own (w.alloc (.cells (madeCells z.cells (i.toNat * inf.size)) u)) w.heap.size u e (some ⟨w.heap.size,0,none⟩) i.toNat (List.replicate i.toNat el) by
  have h':=h (some ⟨w.heap.size,0,none⟩) _ hown (Ext.alloc Ext.rfl' _) (by simp)
  rw [List.length_replicate] at h'
  exact Zs _ _ he hd (fun a ha=>by simp only [execOp,ha.eval hx,ha.eval hy,Sem.run_bind,hr];rfl) (.inr (Ext.alloc Ext.rfl' _).toS) h'
 unfold Go.V.Own
 refine ⟨by rw [Az],.inr ⟨w.heap.size,i.toNat,_,by simp,Nat.le_refl _,heap_alloc_new w _,by simp,by simp only [maxLen];omega,by rw [size_madeCells,hs1],?_⟩⟩
 simp only [List.length_replicate]
 rw [List.take_of_length_le (by simp [size_madeCells,hs1]),hs1]
 have hpos:=e.pos
 apply List.ext_getElem?
 intro j
 have flen:((List.replicate i.toNat el).flatMap e.enc).length=i.toNat * e.sz:=by rw [Az];simp
 by_cases hj:j<i.toNat * e.sz
 ·have hjm:j % e.sz<e.sz:=Nat.mod_lt _ hpos
  have hjd:j / e.sz<i.toNat:=Nat.div_lt_of_lt_mul (by rw [Nat.mul_comm];exact hj)
  have hge:j % e.sz<(e.enc el).length:=by rw [e.len];exact hjm
  have hfl:=flat_get e (List.replicate i.toNat el) (j / e.sz) (j % e.sz) el ((e.enc el)[j % e.sz]) (by rw [List.getElem?_replicate];simp [hjd]) (List.getElem?_eq_getElem hge)
  have hjj:j / e.sz * e.sz+j % e.sz=j:=by rw [Nat.mul_comm];exact Nat.div_add_mod j e.sz
  rw [hjj] at hfl
  rw [hfl]
  have hzs:z.cells.size=e.sz:=hz2
  have hzl:z.cells=(e.enc el).toArray:=by rw [← hel]
  simp only [madeCells,Array.toList_map,Array.toList_range,List.getElem?_map,List.getElem?_range hj,Option.map_some,hzs]
  rw [hzl]
  simp [e.len,hjm]
 ·rw [List.getElem?_eq_none (by simp [size_madeCells];omega),List.getElem?_eq_none (by rw [flen];omega)]
theorem Q116 {α:Type} (e:Enc α) (el:α) {zv:Value} (hu:Ab P t u sz by_) (hzv:Ag P u zv) (h:∀p' w',Go.V.Own w' w.heap.size u e p' i.toNat (List.replicate i.toNat el)→Ext w w'→w'.heap.size=w.heap.size+1→G P n ops dr l (E.put d (.slice p' (List.replicate i.toNat el).length i.toNat)) w' K) (hx:E.look x=some (.int k i):=by exact rfl) (hy:E.look y=some (.int k' i):=by exact rfl) (hsz:e.sz=sz:=by exact rfl) (hel:zv.cells.toList=e.enc el:=by exact rfl) (h0:0≤i:=by omega) (h1:(by_:Int) * i≤281474976710656:=by omega) (h2:i≤9223372036854775807:=by omega) (he:Am P dr.1 ⟨d,.makeSlice t x y,ty,pos,af,g⟩=true:=by exact rfl) (hd:Ah n d=true:=by exact rfl):G1 P n ops dr ⟨d,.makeSlice t x y,ty,pos,af,g⟩ l E w K:=ZaJ e el hu hx hy hsz hzv hel h0 h1 h2 he hd h
theorem Bn {α:Type} {e:Enc α} {xs:List α} {q:Nat} {off:Nat} {esz:Nat} {el:α} {vs:List Value} (hu:Ak P t sz) (h:G P n ops (dq,[]) l (E.put d (.agg vs.toArray)) w K) (hx:E.look x=some (.pointer (some (adr p (q * esz+off)))):=by exact rfl) (hs:Sl w.heap e p c xs:=by assumption) (hq:xs[q]?=some el:=by assumption) (he:e.sz=esz:=by exact rfl) (hv:((e.enc el).drop off).take sz=vs:=by exact rfl) (hl:vs.length=sz:=by exact rfl) (hd:Ah n d=true:=by exact rfl):G1 P n ops (dq,[]) ⟨d,.load t x,ty,pos,af,g⟩ l E w K :=
 Zaa hu hx hl (fun k v hk=>by
  subst he hv
  have hk':(e.enc el)[off+k]?=some v:=by
   have:=AR hk
   rw [hl] at this
   rw [List.getElem?_take,if_pos this,List.getElem?_drop] at hk
   exact hk
  have:=hs.cell q el hq (off+k) v hk'
  rw [Nat.add_assoc];exact this) hd h
theorem Q34 {b:Nat} {cs:List Value} {vs:List Value} (hu:Ak P t sz) (h:G P n ops (dq,[]) l (E.put d (.agg vs.toArray)) w K) (hx:E.look x=some (.pointer (some (adr (bx b) m))):=by exact rfl) (hb:Blk w.heap b t' cs:=by assumption) (hv:(cs.drop m).take sz=vs:=by exact rfl) (hl:vs.length=sz:=by exact rfl) (hd:Ah n d=true:=by exact rfl):G1 P n ops (dq,[]) ⟨d,.load t x,ty,pos,af,g⟩ l E w K :=
 Zaa hu hx hl (fun k v hk=>by
  subst hv
  have:=AR hk
  rw [hl] at this
  rw [List.getElem?_take,if_pos this,List.getElem?_drop] at hk
  exact hb.cell hk) hd h
def Au (P:Program) (t n u sz:Nat):Prop:=P.underlying t=some (.array n u)∧∃i,P.info? u=some i∧i.size=sz
theorem Au.of {P:Program} {t n u sz:Nat} (h1:P.underlying t=some (.array n u)) (h2:(P.info? u).map (·.size)=some sz):Au P t n u sz:=by
 refine ⟨h1,?_⟩
 cases hi:P.info? u with
 | none=>simp [hi] at h2
 | some i=>exact ⟨i,rfl,by simpa [hi] using h2⟩
variable {nn : Nat}
theorem Q74 (hu:Au P t nn u sz) (h:G P n ops dr l (E.put d (.pointer (some (adr p (m+i.toNat * sz))))) w K) (hx:E.look x=some (.pointer (some (adr p m))):=by exact rfl) (hy:E.look y=some (.int k i):=by exact rfl) (h0:0≤i:=by omega) (h1:i<nn:=by omega) (hd:Ah n d=true:=by exact rfl):G1 P n ops dr ⟨d,.indexAddr t x y,ty,pos,af,g⟩ l E w K :=
 Zd _ hd (fun a ha w' _=>by
  obtain ⟨hu,inf,hi,hs⟩:=hu
  simp [execOp,Instr.indexAt,ha.eval hx,ha.eval hy,asIntOf,run_underlying (P:=P) hu,h0,h1,Instr.sureAddr,sizeOf,typeInfo,hi,hs,Gh]) h
end Go.V
namespace Go.Proofs.YtkcolpfanmdmiaaGreatDoor
open Go.V
theorem mixed:Tryz.prog.follows .mixedOrders=true:=by kernel_rfl
theorem T.i2:Ao Tryz.prog 2 .i64:=Tryz.underlying2
theorem T.p2:PlainT Tryz.prog 2:=PlainT.of Tryz.underlying2 rfl
theorem T.z2:Ad Tryz.prog 2 1:=Ad.of (by kernel_rfl)
theorem T.i3:Ao Tryz.prog 3 .i64:=Tryz.underlying3
theorem T.p3:PlainT Tryz.prog 3:=PlainT.of Tryz.underlying3 rfl
theorem T.z3:Ad Tryz.prog 3 1:=Ad.of (by kernel_rfl)
theorem T.zero3:Ag Tryz.prog 3 (.int .i64 0):=Ag.of (by kernel_rfl)
theorem T.p4:PlainT Tryz.prog 4:=PlainT.of Tryz.underlying4 rfl
theorem T.z4:Ad Tryz.prog 4 1:=Ad.of (by kernel_rfl)
theorem T.zero4:Ag Tryz.prog 4 (.bool false):=Ag.of (by kernel_rfl)
theorem T.i5:Ao Tryz.prog 5 .u8:=Tryz.underlying5
theorem T.p5:PlainT Tryz.prog 5:=PlainT.of Tryz.underlying5 rfl
theorem T.z5:Ad Tryz.prog 5 1:=Ad.of (by kernel_rfl)
theorem T.zero5:Ag Tryz.prog 5 (.int .u8 0):=Ag.of (by kernel_rfl)
theorem T.p6:PlainT Tryz.prog 6:=PlainT.of Tryz.underlying6 rfl
theorem T.z6:Ad Tryz.prog 6 1:=Ad.of (by kernel_rfl)
theorem T.a7:Ak Tryz.prog 7 4:=Ak.of Tryz.underlying7 rfl (by kernel_rfl)
theorem T.z7:Ad Tryz.prog 7 4:=Ad.of (by kernel_rfl)
theorem T.a8:Ak Tryz.prog 8 4:=Ak.of Tryz.underlying8 rfl (by kernel_rfl)
theorem T.str9:Ap Tryz.prog 9:=Tryz.underlying9
theorem T.p9:PlainT Tryz.prog 9:=PlainT.of Tryz.underlying9 rfl
theorem T.z9:Ad Tryz.prog 9 1:=Ad.of (by kernel_rfl)
theorem T.p10:PlainT Tryz.prog 10:=PlainT.of Tryz.underlying10 rfl
theorem T.p11:PlainT Tryz.prog 11:=PlainT.of Tryz.underlying11 rfl
theorem T.p12:PlainT Tryz.prog 12:=PlainT.of Tryz.underlying12 rfl
theorem T.a13:Ak Tryz.prog 13 2:=Ak.of Tryz.underlying13 rfl (by kernel_rfl)
theorem T.a14:Ak Tryz.prog 14 2:=Ak.of Tryz.underlying14 rfl (by kernel_rfl)
theorem T.p15:PlainT Tryz.prog 15:=PlainT.of Tryz.underlying15 rfl
theorem T.p16:PlainT Tryz.prog 16:=PlainT.of Tryz.underlying16 rfl
theorem T.p17:PlainT Tryz.prog 17:=PlainT.of Tryz.underlying17 rfl
theorem T.z19:Ad Tryz.prog 19 1:=Ad.of (by kernel_rfl)
theorem T.i21:Ao Tryz.prog 21 .i32:=Tryz.underlying21
theorem T.p21:PlainT Tryz.prog 21:=PlainT.of Tryz.underlying21 rfl
theorem T.z21:Ad Tryz.prog 21 1:=Ad.of (by kernel_rfl)
theorem T.z23:Ad Tryz.prog 23 1:=Ad.of (by kernel_rfl)
theorem T.a26:Ak Tryz.prog 26 2:=Ak.of Tryz.underlying26 rfl (by kernel_rfl)
theorem T.z26:Ad Tryz.prog 26 2:=Ad.of (by kernel_rfl)
theorem T.f26_0:Aa Tryz.prog 26 0 0:=Aa.of (by kernel_rfl)
theorem T.f26_1:Aa Tryz.prog 26 1 1:=Aa.of (by kernel_rfl)
theorem T.a27:Ak Tryz.prog 27 2:=Ak.of Tryz.underlying27 rfl (by kernel_rfl)
theorem T.z27:Ad Tryz.prog 27 2:=Ad.of (by kernel_rfl)
theorem T.a28:Ak Tryz.prog 28 2:=Ak.of Tryz.underlying28 rfl (by kernel_rfl)
theorem T.z28:Ad Tryz.prog 28 2:=Ad.of (by kernel_rfl)
theorem T.f28_0:Aa Tryz.prog 28 0 0:=Aa.of (by kernel_rfl)
theorem T.zero28:Ag Tryz.prog 28 (.agg #[.int .i64 0,.int .i64 0]):=Ag.of (by kernel_rfl)
theorem T.s31:Ab Tryz.prog 31 33 4 56:=Ab.of Tryz.underlying31 (by kernel_rfl)
theorem T.p31:PlainT Tryz.prog 31:=PlainT.of Tryz.underlying31 rfl
theorem T.a32:Ak Tryz.prog 32 4:=Ak.of Tryz.underlying32 rfl (by kernel_rfl)
theorem T.z32:Ad Tryz.prog 32 4:=Ad.of (by kernel_rfl)
theorem T.a33:Ak Tryz.prog 33 4:=Ak.of Tryz.underlying33 rfl (by kernel_rfl)
theorem T.z33:Ad Tryz.prog 33 4:=Ad.of (by kernel_rfl)
theorem T.f33_0:Aa Tryz.prog 33 0 0:=Aa.of (by kernel_rfl)
theorem T.f33_1:Aa Tryz.prog 33 1 1:=Aa.of (by kernel_rfl)
theorem T.f33_2:Aa Tryz.prog 33 2 2:=Aa.of (by kernel_rfl)
theorem T.f33_3:Aa Tryz.prog 33 3 3:=Aa.of (by kernel_rfl)
theorem T.zero33:Ag Tryz.prog 33 (.agg #[.int .i64 0,.string ⟨#[]⟩,.int .i64 0,.slice none 0 0]):=Ag.of (by kernel_rfl)
theorem T.p37:PlainT Tryz.prog 37:=PlainT.of Tryz.underlying37 rfl
theorem T.z37:Ad Tryz.prog 37 1:=Ad.of (by kernel_rfl)
theorem T.f39_0:Aa Tryz.prog 39 0 0:=Aa.of (by kernel_rfl)
theorem T.s40:Ab Tryz.prog 40 5 1 1:=Ab.of Tryz.underlying40 (by kernel_rfl)
theorem T.p40:PlainT Tryz.prog 40:=PlainT.of Tryz.underlying40 rfl
theorem T.z40:Ad Tryz.prog 40 1:=Ad.of (by kernel_rfl)
theorem T.zero40:Ag Tryz.prog 40 (.slice none 0 0):=Ag.of (by kernel_rfl)
theorem T.s41:Ab Tryz.prog 41 3 1 8:=Ab.of Tryz.underlying41 (by kernel_rfl)
theorem T.p41:PlainT Tryz.prog 41:=PlainT.of Tryz.underlying41 rfl
theorem T.z41:Ad Tryz.prog 41 1:=Ad.of (by kernel_rfl)
theorem T.a43:Ak Tryz.prog 43 5:=Ak.of Tryz.underlying43 rfl (by kernel_rfl)
theorem T.z43:Ad Tryz.prog 43 5:=Ad.of (by kernel_rfl)
theorem T.f43_0:Aa Tryz.prog 43 0 0:=Aa.of (by kernel_rfl)
theorem T.f43_1:Aa Tryz.prog 43 1 1:=Aa.of (by kernel_rfl)
theorem T.f43_2:Aa Tryz.prog 43 2 2:=Aa.of (by kernel_rfl)
theorem T.f43_3:Aa Tryz.prog 43 3 3:=Aa.of (by kernel_rfl)
theorem T.f43_4:Aa Tryz.prog 43 4 4:=Aa.of (by kernel_rfl)
theorem T.zero43:Ag Tryz.prog 43 (.agg #[.int .i64 0,.int .i64 0,.int .i64 0,.slice none 0 0,.slice none 0 0]):=Ag.of (by kernel_rfl)
theorem T.p46:PlainT Tryz.prog 46:=PlainT.of Tryz.underlying46 rfl
theorem T.z46:Ad Tryz.prog 46 1:=Ad.of (by kernel_rfl)
theorem T.p49:PlainT Tryz.prog 49:=PlainT.of Tryz.underlying49 rfl
theorem T.s52:Ab Tryz.prog 52 108 1 8:=Ab.of Tryz.underlying52 (by kernel_rfl)
theorem T.p52:PlainT Tryz.prog 52:=PlainT.of Tryz.underlying52 rfl
theorem T.z52:Ad Tryz.prog 52 1:=Ad.of (by kernel_rfl)
theorem T.a53:Ak Tryz.prog 53 4:=Ak.of Tryz.underlying53 rfl (by kernel_rfl)
theorem T.z53:Ad Tryz.prog 53 4:=Ad.of (by kernel_rfl)
theorem T.f54_0:Aa Tryz.prog 54 0 0:=Aa.of (by kernel_rfl)
theorem T.f54_1:Aa Tryz.prog 54 1 1:=Aa.of (by kernel_rfl)
theorem T.f54_2:Aa Tryz.prog 54 2 2:=Aa.of (by kernel_rfl)
theorem T.f54_3:Aa Tryz.prog 54 3 3:=Aa.of (by kernel_rfl)
theorem T.s56:Ab Tryz.prog 56 89 4 64:=Ab.of Tryz.underlying56 (by kernel_rfl)
theorem T.z56:Ad Tryz.prog 56 1:=Ad.of (by kernel_rfl)
theorem T.p58:PlainT Tryz.prog 58:=PlainT.of Tryz.underlying58 rfl
theorem T.z58:Ad Tryz.prog 58 1:=Ad.of (by kernel_rfl)
theorem T.zero58:Ag Tryz.prog 58 (.int .i64 0):=Ag.of (by kernel_rfl)
theorem T.s61:Ab Tryz.prog 61 9 1 16:=Ab.of Tryz.underlying61 (by kernel_rfl)
theorem T.p61:PlainT Tryz.prog 61:=PlainT.of Tryz.underlying61 rfl
theorem T.z61:Ad Tryz.prog 61 1:=Ad.of (by kernel_rfl)
theorem T.i66:Ao Tryz.prog 66 .u64:=Tryz.underlying66
theorem T.s67:Ab Tryz.prog 67 43 5 72:=Ab.of Tryz.underlying67 (by kernel_rfl)
theorem T.z67:Ad Tryz.prog 67 1:=Ad.of (by kernel_rfl)
theorem T.p68:PlainT Tryz.prog 68:=PlainT.of Tryz.underlying68 rfl
theorem T.z68:Ad Tryz.prog 68 1:=Ad.of (by kernel_rfl)
theorem T.s69:Ab Tryz.prog 69 75 1 8:=Ab.of Tryz.underlying69 (by kernel_rfl)
theorem T.p69:PlainT Tryz.prog 69:=PlainT.of Tryz.underlying69 rfl
theorem T.z69:Ad Tryz.prog 69 1:=Ad.of (by kernel_rfl)
theorem T.p70:PlainT Tryz.prog 70:=PlainT.of Tryz.underlying70 rfl
theorem T.z70:Ad Tryz.prog 70 1:=Ad.of (by kernel_rfl)
theorem T.f72_0:Aa Tryz.prog 72 0 0:=Aa.of (by kernel_rfl)
theorem T.f72_1:Aa Tryz.prog 72 1 2:=Aa.of (by kernel_rfl)
theorem T.f72_2:Aa Tryz.prog 72 2 3:=Aa.of (by kernel_rfl)
theorem T.f72_3:Aa Tryz.prog 72 3 4:=Aa.of (by kernel_rfl)
theorem T.f72_4:Aa Tryz.prog 72 4 5:=Aa.of (by kernel_rfl)
theorem T.f72_5:Aa Tryz.prog 72 5 6:=Aa.of (by kernel_rfl)
theorem T.p75:PlainT Tryz.prog 75:=PlainT.of Tryz.underlying75 rfl
theorem T.z75:Ad Tryz.prog 75 1:=Ad.of (by kernel_rfl)
theorem T.p79:PlainT Tryz.prog 79:=PlainT.of Tryz.underlying79 rfl
theorem T.f82_0:Aa Tryz.prog 82 0 0:=Aa.of (by kernel_rfl)
theorem T.f82_1:Aa Tryz.prog 82 1 1:=Aa.of (by kernel_rfl)
theorem T.f82_2:Aa Tryz.prog 82 2 2:=Aa.of (by kernel_rfl)
theorem T.f82_3:Aa Tryz.prog 82 3 3:=Aa.of (by kernel_rfl)
theorem T.p84:PlainT Tryz.prog 84:=PlainT.of Tryz.underlying84 rfl
theorem T.a85:Ak Tryz.prog 85 3:=Ak.of Tryz.underlying85 rfl (by kernel_rfl)
theorem T.z85:Ad Tryz.prog 85 3:=Ad.of (by kernel_rfl)
theorem T.f86_0:Aa Tryz.prog 86 0 0:=Aa.of (by kernel_rfl)
theorem T.f86_1:Aa Tryz.prog 86 1 1:=Aa.of (by kernel_rfl)
theorem T.p87:PlainT Tryz.prog 87:=PlainT.of Tryz.underlying87 rfl
theorem T.a89:Ak Tryz.prog 89 4:=Ak.of Tryz.underlying89 rfl (by kernel_rfl)
theorem T.z89:Ad Tryz.prog 89 4:=Ad.of (by kernel_rfl)
theorem T.f89_1:Aa Tryz.prog 89 1 1:=Aa.of (by kernel_rfl)
theorem T.f89_2:Aa Tryz.prog 89 2 2:=Aa.of (by kernel_rfl)
theorem T.f89_3:Aa Tryz.prog 89 3 3:=Aa.of (by kernel_rfl)
theorem T.zero89:Ag Tryz.prog 89 (.agg #[.int .i64 0,.slice none 0 0,.slice none 0 0,.bool false]):=Ag.of (by kernel_rfl)
theorem T.f91_0:Aa Tryz.prog 91 0 0:=Aa.of (by kernel_rfl)
theorem T.f91_1:Aa Tryz.prog 91 1 1:=Aa.of (by kernel_rfl)
theorem T.f91_2:Aa Tryz.prog 91 2 5:=Aa.of (by kernel_rfl)
theorem T.f91_3:Aa Tryz.prog 91 3 6:=Aa.of (by kernel_rfl)
theorem T.s99:Ab Tryz.prog 99 139 64 64:=Ab.of Tryz.underlying99 (by kernel_rfl)
theorem T.p99:PlainT Tryz.prog 99:=PlainT.of Tryz.underlying99 rfl
theorem T.s100:Ab Tryz.prog 100 141 65 72:=Ab.of Tryz.underlying100 (by kernel_rfl)
theorem T.p100:PlainT Tryz.prog 100:=PlainT.of Tryz.underlying100 rfl
theorem T.z100:Ad Tryz.prog 100 1:=Ad.of (by kernel_rfl)
theorem T.f102_0:Aa Tryz.prog 102 0 0:=Aa.of (by kernel_rfl)
theorem T.f102_1:Aa Tryz.prog 102 1 1:=Aa.of (by kernel_rfl)
theorem T.f102_2:Aa Tryz.prog 102 2 2:=Aa.of (by kernel_rfl)
theorem T.p108:PlainT Tryz.prog 108:=PlainT.of Tryz.underlying108 rfl
theorem T.zero108:Ag Tryz.prog 108 (.pointer none):=Ag.of (by kernel_rfl)
theorem T.p109:PlainT Tryz.prog 109:=PlainT.of Tryz.underlying109 rfl
theorem T.z111:Ad Tryz.prog 111 5:=Ad.of (by kernel_rfl)
theorem T.f111_0:Aa Tryz.prog 111 0 0:=Aa.of (by kernel_rfl)
theorem T.f111_1:Aa Tryz.prog 111 1 1:=Aa.of (by kernel_rfl)
theorem T.f111_2:Aa Tryz.prog 111 2 2:=Aa.of (by kernel_rfl)
theorem T.f111_3:Aa Tryz.prog 111 3 3:=Aa.of (by kernel_rfl)
theorem T.f111_4:Aa Tryz.prog 111 4 4:=Aa.of (by kernel_rfl)
theorem T.p114:PlainT Tryz.prog 114:=PlainT.of Tryz.underlying114 rfl
theorem T.p115:PlainT Tryz.prog 115:=PlainT.of Tryz.underlying115 rfl
theorem T.a116:Ak Tryz.prog 116 2:=Ak.of Tryz.underlying116 rfl (by kernel_rfl)
theorem T.z116:Ad Tryz.prog 116 2:=Ad.of (by kernel_rfl)
theorem T.a117:Ak Tryz.prog 117 2:=Ak.of Tryz.underlying117 rfl (by kernel_rfl)
theorem T.z117:Ad Tryz.prog 117 2:=Ad.of (by kernel_rfl)
theorem T.f117_0:Aa Tryz.prog 117 0 0:=Aa.of (by kernel_rfl)
theorem T.f117_1:Aa Tryz.prog 117 1 1:=Aa.of (by kernel_rfl)
theorem T.s120:Ab Tryz.prog 120 173 9 136:=Ab.of Tryz.underlying120 (by kernel_rfl)
theorem T.a123:Ak Tryz.prog 123 2:=Ak.of Tryz.underlying123 rfl (by kernel_rfl)
theorem T.z123:Ad Tryz.prog 123 2:=Ad.of (by kernel_rfl)
theorem T.f123_0:Aa Tryz.prog 123 0 0:=Aa.of (by kernel_rfl)
theorem T.f123_1:Aa Tryz.prog 123 1 1:=Aa.of (by kernel_rfl)
theorem T.zero123:Ag Tryz.prog 123 (.agg #[.int .i64 0,.slice none 0 0]):=Ag.of (by kernel_rfl)
theorem T.p125:PlainT Tryz.prog 125:=PlainT.of Tryz.underlying125 rfl
theorem T.p126:PlainT Tryz.prog 126:=PlainT.of Tryz.underlying126 rfl
theorem T.f129_0:Aa Tryz.prog 129 0 0:=Aa.of (by kernel_rfl)
theorem T.f129_1:Aa Tryz.prog 129 1 1:=Aa.of (by kernel_rfl)
theorem T.f129_2:Aa Tryz.prog 129 2 2:=Aa.of (by kernel_rfl)
theorem T.f129_3:Aa Tryz.prog 129 3 3:=Aa.of (by kernel_rfl)
theorem T.f129_4:Aa Tryz.prog 129 4 4:=Aa.of (by kernel_rfl)
theorem T.f129_5:Aa Tryz.prog 129 5 5:=Aa.of (by kernel_rfl)
theorem T.ar138:Au Tryz.prog 138 64 5 1:=Au.of Tryz.underlying138 (by kernel_rfl)
theorem T.ar139:Au Tryz.prog 139 64 5 1:=Au.of Tryz.underlying139 (by kernel_rfl)
theorem T.a139:Ak Tryz.prog 139 64:=Ak.of Tryz.underlying139 rfl (by kernel_rfl)
theorem T.z139:Ad Tryz.prog 139 64:=Ad.of (by kernel_rfl)
theorem T.a141:Ak Tryz.prog 141 65:=Ak.of Tryz.underlying141 rfl (by kernel_rfl)
theorem T.z141:Ad Tryz.prog 141 65:=Ad.of (by kernel_rfl)
theorem T.f141_0:Aa Tryz.prog 141 0 0:=Aa.of (by kernel_rfl)
theorem T.f141_1:Aa Tryz.prog 141 1 1:=Aa.of (by kernel_rfl)
theorem T.s145:Ab Tryz.prog 145 40 1 24:=Ab.of Tryz.underlying145 (by kernel_rfl)
theorem T.z145:Ad Tryz.prog 145 1:=Ad.of (by kernel_rfl)
theorem T.s146:Ab Tryz.prog 146 61 1 24:=Ab.of Tryz.underlying146 (by kernel_rfl)
theorem T.p146:PlainT Tryz.prog 146:=PlainT.of Tryz.underlying146 rfl
theorem T.z146:Ad Tryz.prog 146 1:=Ad.of (by kernel_rfl)
theorem T.zero146:Ag Tryz.prog 146 (.slice none 0 0):=Ag.of (by kernel_rfl)
theorem T.s157:Ab Tryz.prog 157 171 8 120:=Ab.of Tryz.underlying157 (by kernel_rfl)
theorem T.p157:PlainT Tryz.prog 157:=PlainT.of Tryz.underlying157 rfl
theorem T.z157:Ad Tryz.prog 157 1:=Ad.of (by kernel_rfl)
theorem T.f162_0:Aa Tryz.prog 162 0 0:=Aa.of (by kernel_rfl)
theorem T.f162_1:Aa Tryz.prog 162 1 1:=Aa.of (by kernel_rfl)
theorem T.f162_2:Aa Tryz.prog 162 2 2:=Aa.of (by kernel_rfl)
theorem T.f162_3:Aa Tryz.prog 162 3 3:=Aa.of (by kernel_rfl)
theorem T.f162_4:Aa Tryz.prog 162 4 4:=Aa.of (by kernel_rfl)
theorem T.f162_5:Aa Tryz.prog 162 5 5:=Aa.of (by kernel_rfl)
theorem T.f164_0:Aa Tryz.prog 164 0 0:=Aa.of (by kernel_rfl)
theorem T.f164_1:Aa Tryz.prog 164 1 1:=Aa.of (by kernel_rfl)
theorem T.f164_2:Aa Tryz.prog 164 2 2:=Aa.of (by kernel_rfl)
theorem T.f164_3:Aa Tryz.prog 164 3 3:=Aa.of (by kernel_rfl)
theorem T.f164_4:Aa Tryz.prog 164 4 4:=Aa.of (by kernel_rfl)
theorem T.s166:Ab Tryz.prog 166 285 2 32:=Ab.of Tryz.underlying166 (by kernel_rfl)
theorem T.p166:PlainT Tryz.prog 166:=PlainT.of Tryz.underlying166 rfl
theorem T.z166:Ad Tryz.prog 166 1:=Ad.of (by kernel_rfl)
theorem T.s167:Ab Tryz.prog 167 287 2 24:=Ab.of Tryz.underlying167 (by kernel_rfl)
theorem T.p167:PlainT Tryz.prog 167:=PlainT.of Tryz.underlying167 rfl
theorem T.z167:Ad Tryz.prog 167 1:=Ad.of (by kernel_rfl)
theorem T.a168:Ak Tryz.prog 168 5:=Ak.of Tryz.underlying168 rfl (by kernel_rfl)
theorem T.z168:Ad Tryz.prog 168 5:=Ad.of (by kernel_rfl)
theorem T.a169:Ak Tryz.prog 169 5:=Ak.of Tryz.underlying169 rfl (by kernel_rfl)
theorem T.z169:Ad Tryz.prog 169 5:=Ad.of (by kernel_rfl)
theorem T.f169_0:Aa Tryz.prog 169 0 0:=Aa.of (by kernel_rfl)
theorem T.f169_1:Aa Tryz.prog 169 1 1:=Aa.of (by kernel_rfl)
theorem T.f169_2:Aa Tryz.prog 169 2 2:=Aa.of (by kernel_rfl)
theorem T.f169_3:Aa Tryz.prog 169 3 3:=Aa.of (by kernel_rfl)
theorem T.f169_4:Aa Tryz.prog 169 4 4:=Aa.of (by kernel_rfl)
theorem T.zero169:Ag Tryz.prog 169 (.agg #[.int .i64 0,.string ⟨#[]⟩,.slice none 0 0,.slice none 0 0,.slice none 0 0]):=Ag.of (by kernel_rfl)
theorem T.a171:Ak Tryz.prog 171 8:=Ak.of Tryz.underlying171 rfl (by kernel_rfl)
theorem T.z171:Ad Tryz.prog 171 8:=Ad.of (by kernel_rfl)
theorem T.f171_0:Aa Tryz.prog 171 0 0:=Aa.of (by kernel_rfl)
theorem T.f171_1:Aa Tryz.prog 171 1 1:=Aa.of (by kernel_rfl)
theorem T.f171_2:Aa Tryz.prog 171 2 2:=Aa.of (by kernel_rfl)
theorem T.f171_3:Aa Tryz.prog 171 3 3:=Aa.of (by kernel_rfl)
theorem T.zero171:Ag Tryz.prog 171 (.agg #[.int .i64 0,.bool false,.int .i64 0,.int .i64 0,.string ⟨#[]⟩,.slice none 0 0,.slice none 0 0,.slice none 0 0]):=Ag.of (by kernel_rfl)
theorem T.a173:Ak Tryz.prog 173 9:=Ak.of Tryz.underlying173 rfl (by kernel_rfl)
theorem T.z173:Ad Tryz.prog 173 9:=Ad.of (by kernel_rfl)
theorem T.f173_0:Aa Tryz.prog 173 0 0:=Aa.of (by kernel_rfl)
theorem T.f173_1:Aa Tryz.prog 173 1 1:=Aa.of (by kernel_rfl)
theorem T.zero173:Ag Tryz.prog 173 (.agg #[.string ⟨#[]⟩,.int .i64 0,.bool false,.int .i64 0,.int .i64 0,.string ⟨#[]⟩,.slice none 0 0,.slice none 0 0,.slice none 0 0]):=Ag.of (by kernel_rfl)
theorem T.s180:Ab Tryz.prog 180 123 2 32:=Ab.of Tryz.underlying180 (by kernel_rfl)
theorem T.f190_0:Aa Tryz.prog 190 0 0:=Aa.of (by kernel_rfl)
theorem T.f190_1:Aa Tryz.prog 190 1 1:=Aa.of (by kernel_rfl)
theorem T.z192:Ad Tryz.prog 192 7:=Ad.of (by kernel_rfl)
theorem T.f192_0:Aa Tryz.prog 192 0 0:=Aa.of (by kernel_rfl)
theorem T.f192_1:Aa Tryz.prog 192 1 1:=Aa.of (by kernel_rfl)
theorem T.f192_2:Aa Tryz.prog 192 2 2:=Aa.of (by kernel_rfl)
theorem T.f192_3:Aa Tryz.prog 192 3 3:=Aa.of (by kernel_rfl)
theorem T.f192_4:Aa Tryz.prog 192 4 4:=Aa.of (by kernel_rfl)
theorem T.f192_5:Aa Tryz.prog 192 5 5:=Aa.of (by kernel_rfl)
theorem T.f192_6:Aa Tryz.prog 192 6 6:=Aa.of (by kernel_rfl)
theorem T.s214:Ab Tryz.prog 214 217 1 24:=Ab.of Tryz.underlying214 (by kernel_rfl)
theorem T.p214:PlainT Tryz.prog 214:=PlainT.of Tryz.underlying214 rfl
theorem T.z214:Ad Tryz.prog 214 1:=Ad.of (by kernel_rfl)
theorem T.f216_0:Aa Tryz.prog 216 0 0:=Aa.of (by kernel_rfl)
theorem T.f216_1:Aa Tryz.prog 216 1 1:=Aa.of (by kernel_rfl)
theorem T.s217:Ab Tryz.prog 217 219 2 40:=Ab.of Tryz.underlying217 (by kernel_rfl)
theorem T.p217:PlainT Tryz.prog 217:=PlainT.of Tryz.underlying217 rfl
theorem T.z217:Ad Tryz.prog 217 1:=Ad.of (by kernel_rfl)
theorem T.zero217:Ag Tryz.prog 217 (.slice none 0 0):=Ag.of (by kernel_rfl)
theorem T.a219:Ak Tryz.prog 219 2:=Ak.of Tryz.underlying219 rfl (by kernel_rfl)
theorem T.z219:Ad Tryz.prog 219 2:=Ad.of (by kernel_rfl)
theorem T.f219_0:Aa Tryz.prog 219 0 0:=Aa.of (by kernel_rfl)
theorem T.f219_1:Aa Tryz.prog 219 1 1:=Aa.of (by kernel_rfl)
theorem T.zero219:Ag Tryz.prog 219 (.agg #[.string ⟨#[]⟩,.slice none 0 0]):=Ag.of (by kernel_rfl)
theorem T.i229:Ao Tryz.prog 229 .u32:=Tryz.underlying229
theorem T.s231:Ab Tryz.prog 231 169 5 96:=Ab.of Tryz.underlying231 (by kernel_rfl)
theorem T.a256:Ak Tryz.prog 256 2:=Ak.of Tryz.underlying256 rfl (by kernel_rfl)
theorem T.z256:Ad Tryz.prog 256 2:=Ad.of (by kernel_rfl)
theorem T.f256_0:Aa Tryz.prog 256 0 0:=Aa.of (by kernel_rfl)
theorem T.f256_1:Aa Tryz.prog 256 1 1:=Aa.of (by kernel_rfl)
theorem T.zero256:Ag Tryz.prog 256 (.agg #[.nilFunc,.nilFunc]):=Ag.of (by kernel_rfl)
theorem T.s257:Ab Tryz.prog 257 256 2 16:=Ab.of Tryz.underlying257 (by kernel_rfl)
theorem T.p259:PlainT Tryz.prog 259:=PlainT.of Tryz.underlying259 rfl
theorem T.i278:Ao Tryz.prog 278 .u64:=Tryz.underlying278
theorem T.s294:Ab Tryz.prog 294 157 1 24:=Ab.of Tryz.underlying294 (by kernel_rfl)
theorem T.s305:Ab Tryz.prog 305 308 4 40:=Ab.of Tryz.underlying305 (by kernel_rfl)
theorem T.a308:Ak Tryz.prog 308 4:=Ak.of Tryz.underlying308 rfl (by kernel_rfl)
theorem T.z308:Ad Tryz.prog 308 4:=Ad.of (by kernel_rfl)
theorem T.f308_0:Aa Tryz.prog 308 0 0:=Aa.of (by kernel_rfl)
theorem T.f308_1:Aa Tryz.prog 308 1 1:=Aa.of (by kernel_rfl)
theorem T.f308_2:Aa Tryz.prog 308 2 2:=Aa.of (by kernel_rfl)
theorem T.f308_3:Aa Tryz.prog 308 3 3:=Aa.of (by kernel_rfl)
theorem T.zero308:Ag Tryz.prog 308 (.agg #[.string ⟨#[]⟩,.int .i64 0,.int .i64 0,.int .i64 0]):=Ag.of (by kernel_rfl)
theorem T.a310:Ak Tryz.prog 310 2:=Ak.of Tryz.underlying310 rfl (by kernel_rfl)
theorem T.z310:Ad Tryz.prog 310 2:=Ad.of (by kernel_rfl)
theorem T.f310_0:Aa Tryz.prog 310 0 0:=Aa.of (by kernel_rfl)
theorem T.f310_1:Aa Tryz.prog 310 1 1:=Aa.of (by kernel_rfl)
theorem T.zero310:Ag Tryz.prog 310 (.agg #[.pointer none,.slice none 0 0]):=Ag.of (by kernel_rfl)
theorem T.f346_0:Aa Tryz.prog 346 0 0:=Aa.of (by kernel_rfl)
theorem T.a386:Ak Tryz.prog 386 3:=Ak.of Tryz.underlying386 rfl (by kernel_rfl)
theorem T.z386:Ad Tryz.prog 386 3:=Ad.of (by kernel_rfl)
theorem T.f386_0:Aa Tryz.prog 386 0 0:=Aa.of (by kernel_rfl)
theorem T.f386_1:Aa Tryz.prog 386 1 1:=Aa.of (by kernel_rfl)
theorem T.f386_2:Aa Tryz.prog 386 2 2:=Aa.of (by kernel_rfl)
theorem T.zero386:Ag Tryz.prog 386 (.agg #[.int .i64 0,.int .i64 0,.int .i64 0]):=Ag.of (by kernel_rfl)
end Go.Proofs.YtkcolpfanmdmiaaGreatDoor
namespace Go.Proofs
open Go.Shelf
def Tryz.layS_ren:Go.Shelf.Ren:=⟨fun|6=>197|8=>250|9=>249|19=>366|20=>367|21=>357|22=>358|23=>359|24=>360|25=>361|26=>362|27=>363|28=>364|29=>365|36=>470|31=>471|32=>472|37=>473|38=>474|39=>460|41=>516|n=>n,fun|27=>61|29=>9|3=>3|32=>278|26=>61|0=>0|44=>229|46=>66|4=>4|36=>442|35=>441|41=>96|5=>5|9=>9|53=>563|57=>567|63=>606|64=>153|n=>n,fun|n=>n⟩
theorem Tryz.layS:Go.Proofs.SlLaysM.n6 Tryz.prog Tryz.layS_ren:={
 mixed:=by kernel_rfl
 f6:=⟨Tryz.f197.name,by decide,Tryz.func197.trans (congrArg some (by kernel_rfl))⟩
 f8:=Tryz.func250.trans (congrArg some (by kernel_rfl))
 f9:=⟨Tryz.f249.name,by decide,Tryz.func249.trans (congrArg some (by kernel_rfl))⟩
 f19:=Tryz.func366.trans (congrArg some (by kernel_rfl))
 f20:=Tryz.func367.trans (congrArg some (by kernel_rfl))
 f21:=⟨Tryz.f357.name,by decide,Tryz.func357.trans (congrArg some (by kernel_rfl))⟩
 f22:=⟨Tryz.f358.name,by decide,Tryz.func358.trans (congrArg some (by kernel_rfl))⟩
 f23:=⟨Tryz.f359.name,by decide,Tryz.func359.trans (congrArg some (by kernel_rfl))⟩
 f24:=⟨Tryz.f360.name,by decide,Tryz.func360.trans (congrArg some (by kernel_rfl))⟩
 f25:=⟨Tryz.f361.name,by decide,Tryz.func361.trans (congrArg some (by kernel_rfl))⟩
 f26:=⟨Tryz.f362.name,by decide,Tryz.func362.trans (congrArg some (by kernel_rfl))⟩
 f27:=⟨Tryz.f363.name,by decide,Tryz.func363.trans (congrArg some (by kernel_rfl))⟩
 f28:=⟨Tryz.f364.name,by decide,Tryz.func364.trans (congrArg some (by kernel_rfl))⟩
 f29:=⟨Tryz.f365.name,by decide,Tryz.func365.trans (congrArg some (by kernel_rfl))⟩
 f31:=Tryz.func471.trans (congrArg some (by kernel_rfl))
 f32:=Tryz.func472.trans (congrArg some (by kernel_rfl))
 f36:=⟨Tryz.f470.name,by decide,Tryz.func470.trans (congrArg some (by kernel_rfl))⟩
 f37:=⟨Tryz.f473.name,by decide,Tryz.func473.trans (congrArg some (by kernel_rfl))⟩
 f38:=⟨Tryz.f474.name,by decide,Tryz.func474.trans (congrArg some (by kernel_rfl))⟩
 f39:=⟨Tryz.f460.name,by decide,Tryz.func460.trans (congrArg some (by kernel_rfl))⟩
 f41:=⟨Tryz.f516.name,by decide,Tryz.func516.trans (congrArg some (by kernel_rfl))⟩
 t0:=Tryz.underlying0
 a0:=Tryz.isAgg0
 z0:=Tryz.sizeOf0
 v0:=Tryz.zeroValue0
 t3:=Tryz.underlying3
 a3:=Tryz.isAgg3
 z3:=Tryz.sizeOf3
 v3:=Tryz.zeroValue3
 t4:=Tryz.underlying4
 a4:=Tryz.isAgg4
 z4:=Tryz.sizeOf4
 v4:=Tryz.zeroValue4
 t5:=Tryz.underlying5
 a5:=Tryz.isAgg5
 z5:=Tryz.sizeOf5
 v5:=Tryz.zeroValue5
 t9:=Tryz.underlying9
 a9:=Tryz.isAgg9
 z9:=Tryz.sizeOf9
 v9:=Tryz.zeroValue9
 t26:=Tryz.underlying61
 a26:=Tryz.isAgg61
 z26:=Tryz.sizeOf61
 v26:=Tryz.zeroValue61
 t27:=Tryz.underlying61
 a27:=Tryz.isAgg61
 z27:=Tryz.sizeOf61
 v27:=Tryz.zeroValue61
 t29:=Tryz.underlying9
 a29:=Tryz.isAgg9
 z29:=Tryz.sizeOf9
 v29:=Tryz.zeroValue9
 t32:=Tryz.underlying278
 a32:=Tryz.isAgg278
 z32:=Tryz.sizeOf278
 v32:=Tryz.zeroValue278
 t35:=Tryz.underlying441
 a35:=Tryz.isAgg441
 z35:=Tryz.sizeOf441
 v35:=Tryz.zeroValue441
 t36:=Tryz.underlying442
 a36:=Tryz.isAgg442
 z36:=Tryz.sizeOf442
 v36:=Tryz.zeroValue442
 t41:=Tryz.underlying96
 a41:=Tryz.isAgg96
 z41:=Tryz.sizeOf96
 v41:=Tryz.zeroValue96
 t44:=Tryz.underlying229
 a44:=Tryz.isAgg229
 z44:=Tryz.sizeOf229
 v44:=Tryz.zeroValue229
 t46:=Tryz.underlying66
 a46:=Tryz.isAgg66
 z46:=Tryz.sizeOf66
 v46:=Tryz.zeroValue66
 t53:=Tryz.underlying563
 a53:=Tryz.isAgg563
 z53:=Tryz.sizeOf563
 v53:=Tryz.zeroValue563
 t57:=Tryz.underlying567
 a57:=Tryz.isAgg567
 z57:=Tryz.sizeOf567
 v57:=Tryz.zeroValue567
 t63:=Tryz.underlying606
 a63:=Tryz.isAgg606
 z63:=Tryz.sizeOf606
 v63:=Tryz.zeroValue606
 t64:=Tryz.underlying153
 a64:=Tryz.isAgg153
 z64:=Tryz.sizeOf153
 v64:=Tryz.zeroValue153 }
def Tryz.layPI_ren:Go.Shelf.Ren:=⟨fun|174=>189|247=>245|245=>246|287=>348|279=>349|280=>350|281=>351|282=>352|321=>463|322=>464|316=>465|171=>467|205=>466|243=>515|246=>222|283=>333|284=>334|285=>335|286=>336|129=>367|317=>449|318=>450|319=>451|320=>452|337=>509|338=>510|n=>n,fun|9=>9|3=>3|2=>2|75=>298|85=>299|4=>4|167=>433|5=>5|53=>66|175=>434|46=>278|168=>436|37=>40|0=>0|210=>559|21=>21|127=>602|145=>605|143=>603|171=>425|173=>427|212=>547|51=>229|20=>20|213=>548|232=>621|233=>138|80=>431|n=>n,fun|15=>2|16=>3|17=>1|18=>4|19=>5|n=>n⟩
theorem Tryz.layPI:Go.Proofs.LaysC.n174 Tryz.prog Tryz.layPI_ren:={
 mixed:=by kernel_rfl
 f129:=Tryz.func367.trans (congrArg some (by kernel_rfl))
 f171:=Tryz.func467.trans (congrArg some (by kernel_rfl))
 f174:=Tryz.func189.trans (congrArg some (by kernel_rfl))
 f205:=Tryz.func466.trans (congrArg some (by kernel_rfl))
 f243:=Tryz.func515.trans (congrArg some (by kernel_rfl))
 f245:=Tryz.func246.trans (congrArg some (by kernel_rfl))
 f246:=Tryz.func222.trans (congrArg some (by kernel_rfl))
 f247:=Tryz.func245.trans (congrArg some (by kernel_rfl))
 f279:=Tryz.func349.trans (congrArg some (by kernel_rfl))
 f280:=Tryz.func350.trans (congrArg some (by kernel_rfl))
 f281:=Tryz.func351.trans (congrArg some (by kernel_rfl))
 f282:=Tryz.func352.trans (congrArg some (by kernel_rfl))
 f283:=Tryz.func333.trans (congrArg some (by kernel_rfl))
 f284:=Tryz.func334.trans (congrArg some (by kernel_rfl))
 f285:=Tryz.func335.trans (congrArg some (by kernel_rfl))
 f286:=Tryz.func336.trans (congrArg some (by kernel_rfl))
 f287:=Tryz.func348.trans (congrArg some (by kernel_rfl))
 f316:=Tryz.func465.trans (congrArg some (by kernel_rfl))
 f317:=Tryz.func449.trans (congrArg some (by kernel_rfl))
 f318:=Tryz.func450.trans (congrArg some (by kernel_rfl))
 f319:=Tryz.func451.trans (congrArg some (by kernel_rfl))
 f320:=Tryz.func452.trans (congrArg some (by kernel_rfl))
 f321:=Tryz.func463.trans (congrArg some (by kernel_rfl))
 f322:=Tryz.func464.trans (congrArg some (by kernel_rfl))
 f337:=Tryz.func509.trans (congrArg some (by kernel_rfl))
 f338:=Tryz.func510.trans (congrArg some (by kernel_rfl))
 t0:=Tryz.underlying0
 a0:=Tryz.isAgg0
 z0:=Tryz.sizeOf0
 v0:=Tryz.zeroValue0
 t2:=Tryz.underlying2
 a2:=Tryz.isAgg2
 z2:=Tryz.sizeOf2
 v2:=Tryz.zeroValue2
 t3:=Tryz.underlying3
 a3:=Tryz.isAgg3
 z3:=Tryz.sizeOf3
 v3:=Tryz.zeroValue3
 t4:=Tryz.underlying4
 a4:=Tryz.isAgg4
 z4:=Tryz.sizeOf4
 v4:=Tryz.zeroValue4
 t5:=Tryz.underlying5
 a5:=Tryz.isAgg5
 z5:=Tryz.sizeOf5
 v5:=Tryz.zeroValue5
 t9:=Tryz.underlying9
 a9:=Tryz.isAgg9
 z9:=Tryz.sizeOf9
 v9:=Tryz.zeroValue9
 t20:=Tryz.underlying20
 a20:=Tryz.isAgg20
 z20:=Tryz.sizeOf20
 v20:=Tryz.zeroValue20
 t21:=Tryz.underlying21
 a21:=Tryz.isAgg21
 z21:=Tryz.sizeOf21
 v21:=Tryz.zeroValue21
 t37:=Tryz.underlying40
 a37:=Tryz.isAgg40
 z37:=Tryz.sizeOf40
 v37:=Tryz.zeroValue40
 t46:=Tryz.underlying278
 a46:=Tryz.isAgg278
 z46:=Tryz.sizeOf278
 v46:=Tryz.zeroValue278
 t51:=Tryz.underlying229
 a51:=Tryz.isAgg229
 z51:=Tryz.sizeOf229
 v51:=Tryz.zeroValue229
 t53:=Tryz.underlying66
 a53:=Tryz.isAgg66
 z53:=Tryz.sizeOf66
 v53:=Tryz.zeroValue66
 t75:=Tryz.underlying298
 a75:=Tryz.isAgg298
 z75:=Tryz.sizeOf298
 v75:=Tryz.zeroValue298
 t85:=Tryz.underlying299
 a85:=Tryz.isAgg299
 z85:=Tryz.sizeOf299
 v85:=Tryz.zeroValue299
 t127:=Tryz.underlying602
 a127:=Tryz.isAgg602
 z127:=Tryz.sizeOf602
 v127:=Tryz.zeroValue602
 t143:=Tryz.underlying603
 a143:=Tryz.isAgg603
 z143:=Tryz.sizeOf603
 v143:=Tryz.zeroValue603
 t145:=Tryz.underlying605
 a145:=Tryz.isAgg605
 z145:=Tryz.sizeOf605
 v145:=Tryz.zeroValue605
 t167:=Tryz.underlying433
 a167:=Tryz.isAgg433
 z167:=Tryz.sizeOf433
 v167:=Tryz.zeroValue433
 t168:=Tryz.underlying436
 a168:=Tryz.isAgg436
 z168:=Tryz.sizeOf436
 v168:=Tryz.zeroValue436
 t171:=Tryz.underlying425
 a171:=Tryz.isAgg425
 z171:=Tryz.sizeOf425
 v171:=Tryz.zeroValue425
 t173:=Tryz.underlying427
 a173:=Tryz.isAgg427
 z173:=Tryz.sizeOf427
 v173:=Tryz.zeroValue427
 t175:=Tryz.underlying434
 a175:=Tryz.isAgg434
 z175:=Tryz.sizeOf434
 v175:=Tryz.zeroValue434
 t210:=Tryz.underlying559
 a210:=Tryz.isAgg559
 z210:=Tryz.sizeOf559
 v210:=Tryz.zeroValue559
 t212:=Tryz.underlying547
 a212:=Tryz.isAgg547
 z212:=Tryz.sizeOf547
 v212:=Tryz.zeroValue547
 t213:=Tryz.underlying548
 a213:=Tryz.isAgg548
 z213:=Tryz.sizeOf548
 t232:=Tryz.underlying621
 a232:=Tryz.isAgg621
 z232:=Tryz.sizeOf621
 v232:=Tryz.zeroValue621
 t233:=Tryz.underlying138
 a233:=Tryz.isAgg138
 z233:=Tryz.sizeOf138
 v233:=Tryz.zeroValue138
 g15:=by kernel_rfl
 g16:=by kernel_rfl
 g17:=by kernel_rfl
 g18:=by kernel_rfl
 g19:=by kernel_rfl
 t80:=Tryz.underlying431
 a80:=Tryz.isAgg431
 z80:=Tryz.sizeOf431
 v80:=Tryz.zeroValue431
 i0:=by kernel_rfl
 i2:=by kernel_rfl
 i3:=by kernel_rfl
 i4:=by kernel_rfl
 i5:=by kernel_rfl
 i9:=by kernel_rfl
 i20:=by kernel_rfl
 i21:=by kernel_rfl
 i37:=by kernel_rfl
 i46:=by kernel_rfl
 i51:=by kernel_rfl
 i53:=by kernel_rfl
 i75:=by kernel_rfl
 i80:=by kernel_rfl
 i85:=by kernel_rfl
 i127:=by kernel_rfl
 i143:=by kernel_rfl
 i145:=by kernel_rfl
 i167:=by kernel_rfl
 i168:=by kernel_rfl
 i171:=by kernel_rfl
 i173:=by kernel_rfl
 i175:=by kernel_rfl
 i210:=by kernel_rfl
 i212:=by kernel_rfl
 i232:=by kernel_rfl
 i233:=by kernel_rfl
 m15:=by kernel_rfl
 m16:=by kernel_rfl
 m17:=by kernel_rfl
 m18:=by kernel_rfl
 m19:=by kernel_rfl
 c0:=by kernel_rfl
 c2:=by kernel_rfl
 c3:=by kernel_rfl
 c4:=by kernel_rfl
 c5:=by kernel_rfl
 c9:=by kernel_rfl
 c20:=by kernel_rfl
 c21:=by kernel_rfl
 c37:=by kernel_rfl
 c46:=by kernel_rfl
 c51:=by kernel_rfl
 c53:=by kernel_rfl
 c75:=by kernel_rfl
 c80:=by kernel_rfl
 c85:=by kernel_rfl
 c127:=by kernel_rfl
 c143:=by kernel_rfl
 c145:=by kernel_rfl
 c167:=by kernel_rfl
 c168:=by kernel_rfl
 c171:=by kernel_rfl
 c173:=by kernel_rfl
 c175:=by kernel_rfl
 c210:=by kernel_rfl
 c212:=by kernel_rfl
 c213:=by kernel_rfl
 c232:=by kernel_rfl
 c233:=by kernel_rfl }
def Tryz.layIA_ren:Go.Shelf.Ren:=⟨fun|153=>337|152=>453|226=>454|227=>455|228=>456|137=>511|119=>512|224=>355|225=>354|217=>353|266=>468|n=>n,fun|9=>9|3=>3|4=>4|5=>5|21=>21|117=>552|116=>551|0=>0|46=>278|124=>599|n=>n,fun|n=>n⟩
theorem Tryz.layIA:Go.Proofs.Lays.n153 Tryz.prog Tryz.layIA_ren:={
 mixed:=by kernel_rfl
 f119:=Tryz.func512.trans (congrArg some (by kernel_rfl))
 f137:=Tryz.func511.trans (congrArg some (by kernel_rfl))
 f152:=Tryz.func453.trans (congrArg some (by kernel_rfl))
 f153:=Tryz.func337.trans (congrArg some (by kernel_rfl))
 f217:=Tryz.func353.trans (congrArg some (by kernel_rfl))
 f224:=Tryz.func355.trans (congrArg some (by kernel_rfl))
 f225:=Tryz.func354.trans (congrArg some (by kernel_rfl))
 f226:=Tryz.func454.trans (congrArg some (by kernel_rfl))
 f227:=Tryz.func455.trans (congrArg some (by kernel_rfl))
 f228:=Tryz.func456.trans (congrArg some (by kernel_rfl))
 f266:=Tryz.func468.trans (congrArg some (by kernel_rfl))
 t0:=Tryz.underlying0
 a0:=Tryz.isAgg0
 z0:=Tryz.sizeOf0
 v0:=Tryz.zeroValue0
 t3:=Tryz.underlying3
 a3:=Tryz.isAgg3
 z3:=Tryz.sizeOf3
 v3:=Tryz.zeroValue3
 t4:=Tryz.underlying4
 a4:=Tryz.isAgg4
 z4:=Tryz.sizeOf4
 v4:=Tryz.zeroValue4
 t5:=Tryz.underlying5
 a5:=Tryz.isAgg5
 z5:=Tryz.sizeOf5
 v5:=Tryz.zeroValue5
 t9:=Tryz.underlying9
 a9:=Tryz.isAgg9
 z9:=Tryz.sizeOf9
 v9:=Tryz.zeroValue9
 t21:=Tryz.underlying21
 a21:=Tryz.isAgg21
 z21:=Tryz.sizeOf21
 v21:=Tryz.zeroValue21
 t46:=Tryz.underlying278
 a46:=Tryz.isAgg278
 z46:=Tryz.sizeOf278
 v46:=Tryz.zeroValue278
 t116:=Tryz.underlying551
 a116:=Tryz.isAgg551
 z116:=Tryz.sizeOf551
 t117:=Tryz.underlying552
 a117:=Tryz.isAgg552
 z117:=Tryz.sizeOf552
 v117:=Tryz.zeroValue552
 t124:=Tryz.underlying599
 a124:=Tryz.isAgg599
 z124:=Tryz.sizeOf599
 v124:=Tryz.zeroValue599 }
def Tryz.layFI_ren:Go.Shelf.Ren:=⟨fun|173=>156|246=>222|283=>333|284=>334|285=>335|286=>336|129=>367|317=>449|318=>450|319=>451|320=>452|337=>509|338=>510|n=>n,fun|2=>2|3=>3|9=>9|4=>4|171=>425|0=>0|53=>66|37=>40|5=>5|173=>427|212=>547|51=>229|20=>20|213=>548|46=>278|232=>621|233=>138|n=>n,fun|17=>1|18=>4|19=>5|n=>n⟩
theorem Tryz.layFI:Go.Proofs.LaysM.n173 Tryz.prog Tryz.layFI_ren:={
 mixed:=by kernel_rfl
 f129:=Tryz.func367.trans (congrArg some (by kernel_rfl))
 f173:=Tryz.func156.trans (congrArg some (by kernel_rfl))
 f246:=Tryz.func222.trans (congrArg some (by kernel_rfl))
 f283:=Tryz.func333.trans (congrArg some (by kernel_rfl))
 f284:=Tryz.func334.trans (congrArg some (by kernel_rfl))
 f285:=Tryz.func335.trans (congrArg some (by kernel_rfl))
 f286:=Tryz.func336.trans (congrArg some (by kernel_rfl))
 f317:=Tryz.func449.trans (congrArg some (by kernel_rfl))
 f318:=Tryz.func450.trans (congrArg some (by kernel_rfl))
 f319:=Tryz.func451.trans (congrArg some (by kernel_rfl))
 f320:=Tryz.func452.trans (congrArg some (by kernel_rfl))
 f337:=Tryz.func509.trans (congrArg some (by kernel_rfl))
 f338:=Tryz.func510.trans (congrArg some (by kernel_rfl))
 t0:=Tryz.underlying0
 a0:=Tryz.isAgg0
 z0:=Tryz.sizeOf0
 v0:=Tryz.zeroValue0
 t2:=Tryz.underlying2
 a2:=Tryz.isAgg2
 z2:=Tryz.sizeOf2
 v2:=Tryz.zeroValue2
 t3:=Tryz.underlying3
 a3:=Tryz.isAgg3
 z3:=Tryz.sizeOf3
 v3:=Tryz.zeroValue3
 t4:=Tryz.underlying4
 a4:=Tryz.isAgg4
 z4:=Tryz.sizeOf4
 v4:=Tryz.zeroValue4
 t5:=Tryz.underlying5
 a5:=Tryz.isAgg5
 z5:=Tryz.sizeOf5
 v5:=Tryz.zeroValue5
 t9:=Tryz.underlying9
 a9:=Tryz.isAgg9
 z9:=Tryz.sizeOf9
 v9:=Tryz.zeroValue9
 t20:=Tryz.underlying20
 a20:=Tryz.isAgg20
 z20:=Tryz.sizeOf20
 v20:=Tryz.zeroValue20
 t37:=Tryz.underlying40
 a37:=Tryz.isAgg40
 z37:=Tryz.sizeOf40
 v37:=Tryz.zeroValue40
 t46:=Tryz.underlying278
 a46:=Tryz.isAgg278
 z46:=Tryz.sizeOf278
 v46:=Tryz.zeroValue278
 t51:=Tryz.underlying229
 a51:=Tryz.isAgg229
 z51:=Tryz.sizeOf229
 v51:=Tryz.zeroValue229
 t53:=Tryz.underlying66
 a53:=Tryz.isAgg66
 z53:=Tryz.sizeOf66
 v53:=Tryz.zeroValue66
 t171:=Tryz.underlying425
 a171:=Tryz.isAgg425
 z171:=Tryz.sizeOf425
 v171:=Tryz.zeroValue425
 t173:=Tryz.underlying427
 a173:=Tryz.isAgg427
 z173:=Tryz.sizeOf427
 v173:=Tryz.zeroValue427
 t212:=Tryz.underlying547
 a212:=Tryz.isAgg547
 z212:=Tryz.sizeOf547
 v212:=Tryz.zeroValue547
 t213:=Tryz.underlying548
 a213:=Tryz.isAgg548
 z213:=Tryz.sizeOf548
 t232:=Tryz.underlying621
 a232:=Tryz.isAgg621
 z232:=Tryz.sizeOf621
 v232:=Tryz.zeroValue621
 t233:=Tryz.underlying138
 a233:=Tryz.isAgg138
 z233:=Tryz.sizeOf138
 v233:=Tryz.zeroValue138
 g17:=by kernel_rfl
 g18:=by kernel_rfl
 g19:=by kernel_rfl
 i0:=by kernel_rfl
 i2:=by kernel_rfl
 i3:=by kernel_rfl
 i4:=by kernel_rfl
 i5:=by kernel_rfl
 i9:=by kernel_rfl
 i20:=by kernel_rfl
 i37:=by kernel_rfl
 i46:=by kernel_rfl
 i51:=by kernel_rfl
 i53:=by kernel_rfl
 i171:=by kernel_rfl
 i173:=by kernel_rfl
 i212:=by kernel_rfl
 i232:=by kernel_rfl
 i233:=by kernel_rfl
 m17:=by kernel_rfl
 m18:=by kernel_rfl
 m19:=by kernel_rfl }
end Go.Proofs
namespace Go.V
open Go.RowKit
variable {P : Program} {n : Nat} {ops : Array Oper} {dr : Nat × List Nat} {l : List Oper} {E : Env} {w : World} {K : Env → World → Prop}
variable {d : Option Nat} {ty : TypeId} {pos : String} {af : Array Edge} {g : Option (Nat × Bool)} {x : Operand} {t t' tp : TypeId} {ms : Array (String × TypeId)} {v : Value}
theorem Q73 (hu:P.underlying t=some (.interface ms)) (h:G P n ops dr l (E.put d (.bool false)) w K) (hx:E.look x=some .nilIface:=by exact rfl) (hd:Ah n d=true:=by exact rfl):G1 P n ops dr ⟨d,.binOp .neq t x (.const .nilIface) t',ty,pos,af,g⟩ l E w K :=
 Zd _ hd (fun a ha w' _=>by
  have e0:a.eval (.const .nilIface)=.nilIface:=rfl
  have key:∀k,(Op.equalIn (k+1) t .nilIface .nilIface).run P w'=.ok true w':=fun k=>by rw [Op.equalIn];simp [run_underlying hu]
  have e1:(Op.equal t .nilIface .nilIface).run P w'=.ok true w':=key 9999
  simp [execOp,ha.eval hx,e0,eqGuard,binOp,e1]) h
theorem Q100 (hu:P.underlying t=some (.interface ms)) (hx:E.look x=some (.iface tp v)) (hd:Ah n d=true) (h:G P n ops dr l (E.put d (.bool true)) w K):G1 P n ops dr ⟨d,.binOp .neq t x (.const .nilIface) t',ty,pos,af,g⟩ l E w K :=
 Zd _ hd (fun a ha w' _=>by
  have e0:a.eval (.const .nilIface)=.nilIface:=rfl
  have key:∀k,(Op.equalIn (k+1) t (.iface tp v) .nilIface).run P w'=.ok false w':=fun k=>by rw [Op.equalIn];simp [run_underlying hu]
  have e1:(Op.equal t (.iface tp v) .nilIface).run P w'=.ok false w':=key 9999
  simp [execOp,ha.eval hx,e0,eqGuard,binOp,e1]) h
theorem Ext.grow {w:World} (k:Nat) (os:Array Obj):Ext w (Sort.grow (w.drewN k) os) :=
 ⟨rfl,rfl,rfl,by simp [Sort.grow,World.drewN],fun i hi=>by simp only [Sort.grow,World.drewN];rw [Array.getElem?_append_left hi]⟩
theorem TabIs.ext {P:Program} {w w':World} {name:String} {k:IntKind} {zs:List Int} (h:Lib.TabIs P w name k zs) (hx:Ext w w'):Lib.TabIs P w' name k zs:=by
 unfold Lib.TabIs World.var? at *
 cases hg:P.globalNamed name with
 | none=>simp [hg] at h
 | some g =>
  simp only [hg,Option.bind_some] at *
  cases hb:w.heap[g]? with
  | none=>rw [hb] at h;cases h
  | some o=>rw [hx.blk hb];rw [hb] at h;exact h
theorem FD {P:Program} {w w':World} {name:String} {cs:Array Value} (h:w.var? P name=some cs) (hx:Ext w w'):w'.var? P name=some cs:=by
 unfold World.var? at *
 cases hg:P.globalNamed name with
 | none=>simp [hg] at h
 | some g =>
  simp only [hg,Option.bind_some] at *
  cases hb:w.heap[g]? with
  | none=>rw [hb] at h;cases h
  | some o=>rw [hx.blk hb];rw [hb] at h;exact h
end Go.V
namespace Go.Proofs.YtkcolpfanmdmiaaGreatDoor
open Go.V
attribute [local irreducible] Blk Own hcell Ao Ab PlainT Ak Ad Ap Aa Ag EqT Au
abbrev Pow (w : World) : Prop := Lib.TabIs Tryz.prog w "internal/strconv.uint64pow10" .u64 Lib.pow10Tab
def CK (n:Int):ByteArray:=⟨(Lib.itoa n).toArray⟩
theorem WZ {s:ByteArray} {v:Int} {w:World} (hs:s.size≤1000000) (h:Lib.parseIntB 64 s.data.toList=.ok v):Ctr Tryz.prog 189 [.string s,.int .i64 10,.int .i64 64] w (fun r w'=>r=.tuple #[.int .i64 v,.nilIface]∧Ext w w'):=by
 unfold Ctr
 refine ⟨⟨Tryz.f189,Tryz.func189,by decide,rfl⟩,?_⟩
 refine Calls.mono (Any.strconv_ParseInt_10_at64_ok Tryz.layPI s (by omega) v h w) fun e w' ⟨he,hw⟩=>⟨_,he,rfl,?_⟩
 rcases hw with rfl|⟨t,rfl⟩
 ·exact Ext.rfl'
 ·exact Lib.bytesWorld_below _ _ _
theorem EI {n:Int} {w:World} (h0:-9223372036854775808≤n) (h1:n≤9223372036854775807) (hT:Pow w):Ctr Tryz.prog 94 [.int .i64 n] w (fun r w'=>r=.string (CK n)∧Ext w w'):=by
 have hF:Ctr Tryz.prog 156 [.int .i64 n,.int .i64 10] w (fun r w'=>r=.string (CK n)∧Ext w w'):=by
  unfold Ctr
  refine ⟨⟨Tryz.f156,Tryz.func156,by decide,rfl⟩,?_⟩
  refine Calls.mono (Any.strconv_FormatInt_10 Tryz.layFI n h0 h1 w hT) fun e w' ⟨he,k,os,hw⟩=>⟨_,he,rfl,?_⟩
  rw [hw];exact Ext.grow k os
 refine Ac Tryz.func94 Tryz.ntmps94 rfl rfl rfl ?_
 repeat' (first|refine R1 ?_|(refine Q1 ?_;(refine Q4 (f:=156) (hc:=hF) ?_;rintro _ w2 ⟨rfl,hx2⟩;refine Kc ?_))|refine R2 ?_|fail)
 refine Kr Tryz.results94 ?_
 exact ⟨rfl,Kz⟩
theorem Uy {s:ByteArray} {v:Int} {w:World} (hs:s.size≤20) (hpi:Lib.parseIntB 64 s.data.toList=.ok v) (h0:-9223372036854775808≤v) (h1:v≤9223372036854775807) (hi:CK v=s) (hT:Pow w):Ctr Tryz.prog 125 [.string s] w (fun r w'=>r=.tuple #[.int .i64 v,.bool true]∧Ext w w'):=by
 refine Ac Tryz.func125 Tryz.ntmps125 rfl rfl rfl ?_
 repeat' (first|refine R1 ?_|(refine Q1 ?_;first|(refine Q4 (f:=189) (hc:=WZ (by omega) hpi) ?_;rintro _ w2 ⟨rfl,hx2⟩;refine Kc ?_)|refine Q73 Tryz.underlying298 ?_|refine Q17 T.str9 ?_)|refine R2 ?_|(apply Za;exact rfl;all_goals (intro h;try (exfalso;omega)))|fail)
 refine Q1 ?_;refine Q4 (hc:=EI h0 h1 (TabIs.ext hT hx2)) ?_;rintro _ w3 ⟨rfl,hx3⟩;refine Kc ?_
 repeat' (first|refine R1 ?_|refine R2 ?_|(apply Za;exact rfl;all_goals (intro h;try (exfalso;omega)))|fail)
 all_goals try contradiction
 refine Kr Tryz.results125 ?_
 exact ⟨rfl,Kz⟩
end Go.Proofs.YtkcolpfanmdmiaaGreatDoor
namespace Go.V
open Go.RowKit Go.ChangeShapes Go.WideShapes Go.ChangeAt
variable {H : Type} {enc : TypeId × Value → H} {P : Program} {w : World}
theorem UD {t:TypeId} (ht:P.underlying t=some (.int .i64)) (n:Nat) (cs:List Value) (z:DataW H × List MemPlace) (h:DataW.trod enc P w 0 (fun _=>true) true n t cs=some z):∃x,cs=He.enc x∧(-9223372036854775808≤x∧x≤9223372036854775807):=by
 obtain ⟨s,h1,_,h2⟩:=DataW.trod_int ht h
 exact ⟨s,h1,by simpa [Lit.wf,IntKind.min,IntKind.max,IntKind.bits,IntKind.signed] using h2⟩
theorem Qo {t:TypeId} {v:Value} {d:DataW H} {ps:List MemPlace} {r:Reach} {base:Nat} (ht:P.underlying t=some (.int .i64)) (hv:Value.okWide P w r base t v) (h:DataW.Trod enc P w 0 (fun _=>true) true t v d ps):∃x,v=.int .i64 x∧(-9223372036854775808≤x∧x≤9223372036854775807):=by
 obtain ⟨s,rfl⟩:=okWide_int ht hv
 obtain ⟨n,h⟩:=h
 obtain ⟨x,hx,hs⟩:=UD ht _ _ _ h
 simp [Value.cells,He] at hx
 subst hx
 exact ⟨s,rfl,hs⟩
theorem FL (hl:laidOutB P=true) {W W':World} (hx:Ext W W'):∀{ts:List TypeId} {vs:List Value} {ds:List (DataW H)} {ps:List MemPlace},(∀t∈ts,P.readableRec t=true∧t<P.types.size) →
  DataW.TrodAll enc P W 0 (fun _=>true) true ts vs ds ps→DataW.TrodAll enc P W' 0 (fun b=>decide (b<W.heap.size)) true ts vs ds ps
 | [],vs,ds,ps,_,h=>by
  obtain ⟨rfl,rfl,rfl⟩:=trodAll_nil h
  exact trodAll_mk0
 | t :: ts,vs,ds,ps,hr,h=>by
  obtain ⟨v,vs',d,ds',p,q,rfl,rfl,rfl,h1,h2⟩:=trodAll_cons h
  have hlt:∀x∈p,x.block<W.heap.size:=by obtain ⟨m,hm⟩:=h1;exact DataW.trod_lt m _ _ _ hm
  obtain ⟨r1,r2⟩:=hr t (by simp)
  exact trodAll_cons_mk (Below.trod hl r1 r2 h1 hx hlt) (FL hl hx (fun t ht=>hr t (by simp [ht])) h2)
theorem Ul {f:Func} {s:ChangeSpec} {W W':World} {args:Array Value} {ds gs:List (DataW H)} {before:List MemPlace} (hl:laidOutB P=true) (hr:(f.params.toList.all fun t=>P.readableRec t && decide (t<P.types.size))=true) {tb:TypeId} (hb:P.underlying tb=some .bool)
  (hres:f.resultTypes=#[tb]) (hvars:s.vars=[]) (hW:DataW.Whole enc P f.params.toList s.vars false W args.toList ds gs before) (hs:s.fn H (ds++gs)={ results:=[.lit (.bool true)],args:=ds }) (hx:Ext W W') :
  s.post enc P f false true false false W args (.bool true) W':=by
 have hW':=hW
 obtain ⟨p,q,hA,hV,rfl,_,_⟩:=hW
 rw [hvars] at hV
 obtain ⟨rfl,rfl⟩:=trodVars_none hV
 have hr':∀t∈f.params.toList,P.readableRec t=true∧t<P.types.size:=fun t ht=>by
  have:=List.all_eq_true.1 hr t ht
  simpa using this
 refine ⟨ds,[],p++[],[],p,[],hW',?_,?_,?_,hx.frame _,fun h=>by cases h⟩
 ·rw [hs,hres]
  exact trodAll_mk1 (shut_bool hb _)
 ·rw [hs]
  exact FL hl hx hr' hA
 ·rw [hs,hvars];exact rfl
end Go.V
