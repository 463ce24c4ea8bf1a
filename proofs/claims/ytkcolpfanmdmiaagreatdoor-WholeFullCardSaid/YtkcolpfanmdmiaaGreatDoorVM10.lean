/- Texts of this proof laid together. -/
import Derived.Test.YtkcolpfanmdmiaaGreatDoorVM1
import Derived.Test.YtkcolpfanmdmiaaGreatDoorVM2
import Derived.Test.YtkcolpfanmdmiaaGreatDoorVM3
import Derived.Test.YtkcolpfanmdmiaaGreatDoorVM4
import Derived.Test.YtkcolpfanmdmiaaGreatDoorVM5
import Derived.Test.YtkcolpfanmdmiaaGreatDoorVM6
import Derived.Test.YtkcolpfanmdmiaaGreatDoorVM7
import Derived.Test.YtkcolpfanmdmiaaGreatDoorVM8
import Derived.Test.YtkcolpfanmdmiaaGreatDoorVM9
import Derived.Lib.ItoaNum
import Derived.Lib.ParseIntB
import Derived.Laws.Externs
import Derived.Laws.CopyRow
import Derived.Lib.AppendZerosOnto
import Derived.Lib.Overlaps
import Derived.Laws.Strings2
import Derived.Shelf.Strconv.ErrVarParseInt
set_option maxHeartbeats 8000000
open Go Go.V
variable {af : Array Edge} {ops : Array Oper} {E : Env} {K : Env → World → Prop} {i j : Int} {k k' : IntKind} {l : List Oper} {a b by_ c dq n : Nat} {dr : Nat × List Nat} {x y z : Operand} {g : Option (Nat × Bool)} {p : Option Addr} {d : Option Nat} {P : Program} {pos : String} {t t' ty u : TypeId} {w : World}
namespace Go.Proofs.YtkcolpfanmdmiaaGreatDoor
open Go.V
attribute [local irreducible] Blk Own hcell Ao Ab PlainT Ak Ad Ap Aa Ag EqT Au
theorem Ki:∀(xs ys:List UInt8) (c d:UInt8),xs.length=ys.length→Op.bytesLess (xs++[c]) (ys++[d])=(Op.bytesLess xs ys || (decide (xs=ys) && decide (c<d)))
 | [],[],c,d,_=>by simp [Op.bytesLess]
 | x :: xs,y :: ys,c,d,h=>by
  have ih:=Ki xs ys c d (by simpa using h)
  simp only [List.cons_append,Op.bytesLess,ih]
  by_cases hlt:x<y
  ·simp [hlt]
  ·by_cases hgt:y<x
   ·have hne:x≠y:=by intro he;subst he;exact absurd hgt hlt
    have hb:(x == y)=false:=by simp [hne]
    simp [hlt,hne,hb]
   ·have he:x=y:=UInt8.le_antisymm (UInt8.not_lt.1 hgt) (UInt8.not_lt.1 hlt)
    subst he
    simp
 | [],y :: ys,c,d,h=>by cases h
 | x :: xs,[],c,d,h=>by cases h
theorem Gl {a b:Nat} (ha:a<10) (hb:b<10):(UInt8.ofNat (48+a)<UInt8.ofNat (48+b)) ↔ a<b:=by
 rw [UInt8.lt_iff_toNat_lt]
 rw [UInt8.toNat_ofNat',UInt8.toNat_ofNat']
 omega
theorem FU (u:Nat):∀c∈Lib.decDigits u,48≤c.toNat:=by
 induction u using Nat.strongRecOn with
 | _ u ih =>
  rw [Lib.decDigits]
  split
  ·intro c hc
   simp only [List.mem_singleton] at hc
   rw [hc,UInt8.toNat_ofNat']
   omega
  ·intro c hc
   rcases List.mem_append.1 hc with hc|hc
   ·exact ih (u / 10) (by omega) c hc
   ·simp only [List.mem_singleton] at hc
    rw [hc,UInt8.toNat_ofNat']
    omega
theorem TL (u:Nat):∀v,Lib.nDigits u=Lib.nDigits v→Op.bytesLess (Lib.decDigits u) (Lib.decDigits v)=decide (u<v)∧(Lib.decDigits u=Lib.decDigits v ↔ u=v):=by
 induction u using Nat.strongRecOn with
 | _ u ih =>
  intro v hn
  by_cases hu:u<10
  ·have hv:v<10:=by
    apply Decidable.byContradiction;intro hv
    rw [Lib.nDigits_small hu,Lib.nDigits_big hv] at hn
    have:=Lib.nDigits_pos (v / 10)
    omega
   have hd:=Gl hu hv
   have hd2:=Gl hv hu
   rw [Lib.decDigits_one hu,Lib.decDigits_one hv]
   refine ⟨?_,?_⟩
   ·rw [show ([UInt8.ofNat (48+u)]:List UInt8)=[]++[UInt8.ofNat (48+u)] from rfl,show ([UInt8.ofNat (48+v)]:List UInt8)=[]++[UInt8.ofNat (48+v)] from rfl,Ki [] [] _ _ rfl]
    rw [show decide (UInt8.ofNat (48+u)<UInt8.ofNat (48+v))=decide (u<v) from decide_eq_decide.2 hd]
    simp [Op.bytesLess]
   ·constructor
    ·intro he
     injection he with he _
     rw [he] at hd hd2
     have h1:¬u<v:=fun h=>UInt8.lt_irrefl _ (hd.2 h)
     have h2:¬v<u:=fun h=>UInt8.lt_irrefl _ (hd2.2 h)
     omega
    ·intro he;rw [he]
  ·have hv:¬v<10:=by
    intro hv
    rw [Lib.nDigits_small hv,Lib.nDigits_big hu] at hn
    have:=Lib.nDigits_pos (u / 10)
    omega
   rw [Lib.nDigits_big hu,Lib.nDigits_big hv] at hn
   obtain ⟨ih1,ih2⟩:=ih (u / 10) (by omega) (v / 10) (by omega)
   have hlen:(Lib.decDigits (u / 10)).length=(Lib.decDigits (v / 10)).length:=by rw [Lib.decDigits_length,Lib.decDigits_length];omega
   have hd:=Gl (a:=u % 10) (b:=v % 10) (by omega) (by omega)
   have hd2:=Gl (a:=v % 10) (b:=u % 10) (by omega) (by omega)
   rw [Lib.decDigits,dif_neg hu,Lib.decDigits.eq_1 v,dif_neg hv]
   refine ⟨?_,?_⟩
   ·rw [Ki _ _ _ _ hlen,ih1]
    rw [show decide (UInt8.ofNat (48+u % 10)<UInt8.ofNat (48+v % 10))=decide (u % 10<v % 10) from decide_eq_decide.2 hd,
     show decide (Lib.decDigits (u / 10)=Lib.decDigits (v / 10))=decide (u / 10=v / 10) from decide_eq_decide.2 ih2,← Bool.decide_and,← Bool.decide_or]
    apply decide_eq_decide.2
    omega
   ·constructor
    ·intro he
     obtain ⟨e1,e2⟩:=List.append_inj he hlen
     injection e2 with e2 _
     rw [e2] at hd hd2
     have h1:¬u % 10<v % 10:=fun h=>UInt8.lt_irrefl _ (hd.2 h)
     have h2:¬v % 10<u % 10:=fun h=>UInt8.lt_irrefl _ (hd2.2 h)
     have:=ih2.1 e1
     omega
    ·intro he;rw [he]
theorem Qx {u v:Nat} (he:Lib.decDigits u=Lib.decDigits v):u=v :=
 (TL u v (by rw [← Lib.decDigits_length,← Lib.decDigits_length,he])).2.1 he
theorem TM (u:Nat) (xs:List UInt8):Lib.decDigits u≠45 :: xs:=by
 intro he
 have:=FU u 45 (by rw [he];simp)
 simp at this
theorem Ug {a b:Int} (he:Lib.itoa a=Lib.itoa b):a=b:=by
 unfold Lib.itoa at he
 split at he <;> split at he
 ·injection he with _ he
  have:=Qx he
  omega
 ·exact absurd he.symm (TM _ _)
 ·exact absurd he (TM _ _)
 ·have:=Qx he
  omega
end Go.Proofs.YtkcolpfanmdmiaaGreatDoor
namespace Go.V
def AC (n:Int):Prop:=-9223372036854775808≤n∧n≤9223372036854775807
instance (n:Int):Decidable (AC n):=inferInstanceAs (Decidable (_∧_))
def sums:Int→List Int→Int × Bool
 | a,[]=>(a,true)
 | a,b :: bs=>if AC (a+b) then sums (a+b) bs else (0,false)
end Go.V
namespace Go.Proofs.YtkcolpfanmdmiaaGreatDoor
open Go.V
attribute [local irreducible] Blk Own hcell Ao Ab PlainT Ak Ad Ap Aa Ag EqT Au
def Cb (acc:Nat) (l:List UInt8):Nat:=l.foldl (fun a c=>a * 10+(c.toNat - 48)) acc
theorem Ml (acc:Nat) (c:UInt8) (l:List UInt8):Cb acc (c :: l)=Cb (acc * 10+(c.toNat - 48)) l:=by unfold Cb;rw [List.foldl_cons]
theorem Ib (acc:Nat) (l:List UInt8) (c:UInt8):Cb acc (l++[c])=Cb acc l * 10+(c.toNat - 48):=by unfold Cb;rw [List.foldl_append,List.foldl_cons,List.foldl_nil]
theorem Jw:∀(l:List UInt8) (acc:Nat),acc≤Cb acc l
 | [],acc=>Nat.le_refl _
 | c :: l,acc=>by rw [Ml];have:=Jw l (acc * 10+(c.toNat - 48));omega
theorem LV:∀(l:List UInt8) (acc:Nat),(∀c∈l,48≤c.toNat∧c.toNat≤57)→Cb acc l≤18446744073709551615→Lib.parseUintM (2 ^ 64 - 1) acc l=.ok (Cb acc l)
 | [],acc,_,_=>rfl
 | c :: l,acc,hd,hv=>by
  have hc:=hd c (by simp)
  have hg:=Jw l (acc * 10+(c.toNat - 48))
  rw [Ml] at hv ⊢
  rw [Lib.parseUintM,if_pos hc,if_neg (by omega),if_neg (by omega),LV l _ (fun d h=>hd d (by simp [h])) hv]
theorem TK (u:Nat):∀c∈Lib.decDigits u,c.toNat≤57:=by
 induction u using Nat.strongRecOn with
 | _ u ih =>
  rw [Lib.decDigits]
  split
  ·intro c hc
   simp only [List.mem_singleton] at hc
   rw [hc,UInt8.toNat_ofNat']
   omega
  ·intro c hc
   rcases List.mem_append.1 hc with hc|hc
   ·exact ih (u / 10) (by omega) c hc
   ·simp only [List.mem_singleton] at hc
    rw [hc,UInt8.toNat_ofNat']
    omega
theorem Nc (u:Nat):Cb 0 (Lib.decDigits u)=u:=by
 induction u using Nat.strongRecOn with
 | _ u ih =>
  rw [Lib.decDigits]
  split
  ·show 0 * 10+((UInt8.ofNat (48+u)).toNat - 48)=u
   rw [UInt8.toNat_ofNat']
   omega
  ·rw [Ib,ih (u / 10) (by omega),UInt8.toNat_ofNat']
   omega
theorem Nz (u:Nat):∃c l,Lib.decDigits u=c :: l∧48≤c.toNat:=by
 cases h:Lib.decDigits u with
 | nil =>
  have:=Lib.decDigits_length u
  rw [h] at this
  have h2:=Lib.nDigits_pos u
  simp at this;omega
 | cons c l=>exact ⟨c,l,rfl,FU u c (by rw [h];simp)⟩
theorem OH {u:Nat} (h:u≤18446744073709551615):Lib.parseUintB 64 (Lib.decDigits u)=.ok u:=by
 obtain ⟨c,l,hc,_⟩:=Nz u
 unfold Lib.parseUintB
 rw [if_neg (by rw [hc];simp),LV _ 0 (fun c hc=>⟨FU u c hc,TK u c hc⟩) (by rw [Nc];exact h),Nc]
theorem PQ {n:Int} (h:AC n):Lib.parseIntB 64 (Lib.itoa n)=.ok n:=by
 unfold AC at h
 unfold Lib.itoa
 by_cases hn:n<0
 ·rw [if_pos hn]
  unfold Lib.parseIntB
  simp only
  rw [if_pos (.inr (by decide)),OH (by omega)]
  simp only
  have h45:(45:UInt8).toNat=45:=by decide
  rw [if_neg (by rw [h45];simp),if_neg (by omega),if_pos h45]
  congr 1;omega
 ·rw [if_neg hn]
  obtain ⟨c,l,hc,hc48⟩:=Nz n.toNat
  have hu:=OH (u:=n.toNat) (by omega)
  rw [hc] at hu ⊢
  unfold Lib.parseIntB
  simp only
  rw [if_neg (by omega),hu]
  simp only
  rw [if_neg (by omega),if_neg (by omega),if_neg (by omega)]
  congr 1;omega
theorem Sq {l:List UInt8} {v:Int} (h:Lib.parseIntB 64 l=.ok v):AC v:=by
 unfold Lib.parseIntB at h
 cases l with
 | nil=>cases h
 | cons c r =>
  simp only at h
  generalize Lib.parseUintB 64 _=q at h
  rcases q with u|_|_
  ·simp only at h
   split at h
   ·cases h
   ·split at h
    ·cases h
    ·injection h with h
     unfold AC
     split at h <;> omega
  ·cases h
  ·cases h
theorem DU:∀(k u:Nat),u<10 ^ (k+1)→Lib.nDigits u≤k+1
 | 0,u,h=>by rw [Lib.nDigits_small (by simpa using h)];exact Nat.le_refl _
 | k+1,u,h=>by
  by_cases h10:u<10
  ·rw [Lib.nDigits_small h10];omega
  ·rw [Lib.nDigits_big h10]
   have:=DU k (u / 10) (by rw [Nat.pow_succ] at h;omega)
   omega
theorem Ex {n:Int} (h:AC n):(CK n).size≤20:=by
 unfold AC at h
 have e:(CK n).size=(Lib.itoa n).length:=by
  show (Lib.itoa n).toArray.size=_
  simp
 rw [e]
 unfold Lib.itoa
 split
 ·have:=DU 18 n.natAbs (by omega)
  rw [List.length_cons,Lib.decDigits_length];omega
 ·have:=DU 18 n.toNat (by omega)
  rw [Lib.decDigits_length];omega
def Cq (s:ByteArray) (n:Int):Prop:=AC n∧CK n=s
theorem CB (n:Int):(CK n).data.toList=Lib.itoa n:=by show (Lib.itoa n).toArray.toList=_;simp
end Go.Proofs.YtkcolpfanmdmiaaGreatDoor
namespace Go.V
open Go.RowKit
theorem Own.toBlk {α:Type} {e:Enc α} {w:World} {B T:Nat} {p:Option Addr} {c:Nat} {xs:List α} (h:Own w B T e p c xs) (hne:p≠none) :
  ∃gb cur,p=bx gb∧B≤gb∧Blk w.heap gb T cur∧cur.length=c * e.sz∧c≤maxLen∧xs.length≤c∧cur.take (xs.length * e.sz)=xs.flatMap e.enc:=by
 rcases h.2 with ⟨hv,_⟩|⟨g,cap,cur,hv,hb,hg,hnc,hcm,hcs,ht⟩
 ·injection hv with e1 _ _;exact absurd e1 hne
 ·injection hv with e1 _ e3;subst e1 e3
  exact ⟨g,cur.toList,rfl,hb,by unfold Blk;rw [Array.toArray_toList];exact hg,by simpa using hcs,hcm,hnc,ht⟩
theorem Own.ofBlk {α:Type} {e:Enc α} {w:World} {B T gb:Nat} {c:Nat} {xs:List α} {cur:List Value} (hb:B≤gb) (hB:Blk w.heap gb T cur) (hl:cur.length=c * e.sz) (hc:c≤maxLen) (hx:xs.length≤c) (ht:cur.take (xs.length * e.sz)=xs.flatMap e.enc) :
  Own w B T e (bx gb) c xs:=by
 unfold Own
 refine ⟨by rw [Az],.inr ⟨gb,c,cur.toArray,rfl,hb,hB,hx,hc,by simpa using hl,by simpa using ht⟩⟩
theorem Own.some_of_pos {α:Type} {e:Enc α} {w:World} {B T:Nat} {p:Option Addr} {c:Nat} {xs:List α} (h:Own w B T e p c xs) (hn:0<xs.length):p≠none:=by
 rintro rfl
 have h1:=h.sl.ok.nul rfl
 have h2:=h.sl.ok.le
 omega
theorem Bc {gb c l sz:Nat} (h:l<c):AP (bx gb) c l sz=some ⟨gb,l * sz,none⟩:=by
 unfold AP
 rw [if_neg (by omega)]
 simp [addr_add]
variable {t t' u sz : Nat} {v v' : Value} {q : Option Addr} {len m : Nat} {b : Bool}
theorem Q54 (hu:Ab P t u sz by_) (h:G P n ops dr l (E.put d (.int .i64 c)) w K) (hx:E.look x=some (.slice p len c):=by exact rfl) (hd:Ah n d=true:=by exact rfl):G1 P n ops dr ⟨d,.call ⟨.builtin .cap,#[x],#[t]⟩,ty,pos,af,g⟩ l E w K :=
 Zd _ hd (fun a ha w' _=>by simp [execOp,resolve,invoke,builtin,Builtin.cap_,ha.eval hx,run_underlying (P:=P) hu.1,goInt]) h
theorem Q18 {q:Nat} (hu:Ab P t u sz by_) (ho:Okp p len c) (h:G P n ops dr l (E.put d (.slice (AP p c q sz) (len - q) (c - q))) w K) (hx:E.look x=some (.slice p len c):=by exact rfl) (hy:E.look y=some (.int k j):=by exact rfl) (hj:j=(q:Int):=by exact rfl) (hq:q≤len:=by first|omega|(simp only [List.length_cons,List.length_nil];omega)) (hd:Ah n d=true:=by exact rfl):G1 P n ops dr ⟨d,.slice t x (some y) none none,ty,pos,af,g⟩ l E w K:=by
 subst hj;exact Zax hu hx hy ho hq hd h
theorem Q23 {q:Nat} (hu:Ab P t u sz by_) (h:G P n ops dr l (E.put d (.slice p q c)) w K) (hx:E.look x=some (.slice p len c):=by exact rfl) (hy:E.look y=some (.int k j):=by exact rfl) (hj:j=(q:Int):=by omega) (hq:q≤c:=by omega) (hd:Ah n d=true:=by exact rfl):G1 P n ops dr ⟨d,.slice t x none (some y) none,ty,pos,af,g⟩ l E w K:=by
 subst hj;exact ZaQ hu hx hy hq hd (by rw [SS];exact h)
theorem SB {gb o dl dc sl sc T:Nat} {cur vs:List Value} (hu:Ab P t u sz by_) (hb:Blk w.heap gb T cur) (hq:vs≠[]→∃b' o',q=some ⟨b',o',none⟩) (hn:vs.length=min sl dl * sz)
  (hsrc:∀j v,vs[j]?=some v→hcell w.heap (adr q j)=some v) (hfit:o+vs.length≤cur.length) (h1:∀v∈vs,v.oneCell'=true) (hsz:0<sz) (ty:TypeId) :
  (Builtin.copy_ #[t,t'] ty #[.slice (some ⟨gb,o,none⟩) dl dc,.slice q sl sc]).run P w=.ok (goInt (min sl dl)) (w.setRow gb (cur.take o++vs++cur.drop (o+vs.length)).toArray):=by
 obtain ⟨hu1,inf,z,hi,rfl,rfl,hz,hz2⟩:=hu
 have hst:=run_storeCells_at P gb o T vs 0 cur.toArray w hb (by simpa using hfit) h1
 simp only [Nat.add_zero] at hst
 have hmin:Nat.min sl dl=min sl dl:=rfl
 by_cases hv:vs=[]
 ·subst hv
  have h0:min sl dl=0:=by
   have:min sl dl * inf.size=0:=by simpa using hn.symm
   rcases Nat.mul_eq_zero.1 this with h|h
   ·exact h
   ·omega
  have hl:∀(x:Addr),(loadCells x 0).run P w=.ok #[] w:=fun x=>by simpa using run_loadCells_list (P:=P) w x [] (by simp)
  cases q <;> (simp [Builtin.copy_,run_underlying hu1,Builtin.lenOf,Builtin.firstCells,sizeOf,typeInfo,hi,hmin,h0,hl,hst,goInt];try omega)
 ·obtain ⟨b',o',rfl⟩:=hq hv
  have hl:=run_loadCells_list (P:=P) w ⟨b',o',none⟩ vs (fun j v hj=>by rw [addr_add];exact hsrc j v hj)
  rw [hn] at hl
  simp [Builtin.copy_,run_underlying hu1,Builtin.lenOf,Builtin.firstCells,sizeOf,typeInfo,hi,hmin,hl,hst,goInt]
  try omega
theorem Zz {gb o dl dc sl sc T:Nat} {cur:List Value} {dp:Option Addr} (vs:List Value) (hu:Ab P t u sz by_) (hx:E.look x=some (.slice dp dl dc)) (hy:E.look y=some (.slice q sl sc)) (hdp:dp=some ⟨gb,o,none⟩) (hb:Blk w.heap gb T cur) (hq:vs≠[]→∃b' o',q=some ⟨b',o',none⟩) (hn:vs.length=min sl dl * sz)
  (hsrc:∀j v,vs[j]?=some v→hcell w.heap (adr q j)=some v) (hfit:o+vs.length≤cur.length) (h1:∀v∈vs,v.oneCell'=true) (hsz:0<sz)
  (he:Am P dr.1 ⟨d,.call ⟨.builtin .copy,#[x,y],#[t,t']⟩,ty,pos,af,g⟩=true) (hw:writes dr.1 ⟨d,.call ⟨.builtin .copy,#[x,y],#[t,t']⟩,ty,pos,af,g⟩=true) (hd:Ah n d=true)
  (h:∀w',Blk w'.heap gb T (cur.take o++vs++cur.drop (o+vs.length))→w.grownBy w' (some gb)→w'.heap.size=w.heap.size→G P n ops dr l (E.put d (.int .i64 (min sl dl:Nat))) w' K):G1 P n ops dr ⟨d,.call ⟨.builtin .copy,#[x,y],#[t,t']⟩,ty,pos,af,g⟩ l E w K:=by
 subst hdp
 exact Zs _ (w.setRow gb (cur.take o++vs++cur.drop (o+vs.length)).toArray) he hd (fun a ha=>by simp [execOp,resolve,invoke,builtin,ha.eval hx,ha.eval hy,SB (t':=t') hu hb hq hn hsrc hfit h1 hsz ty,goInt];try omega) (.inl hw)
  (h _ (by unfold Blk;exact setRow_heap w gb _ _ T (0,0) hb) (Co w gb _) (by simp))
theorem Q60 {gb:Nat} {o:Nat} {dl:Nat} {dc:Nat} {sl:Nat} {sc:Nat} {T:Nat} {cur:List Value} {dp:Option Addr} (vs:List Value) (hu:Ab P t u sz by_) (hb:Blk w.heap gb T cur) (hsrc:∀j v,vs[j]?=some v→hcell w.heap (adr q j)=some v) (h:∀w',Blk w'.heap gb T (cur.take o++vs++cur.drop (o+vs.length))→w.grownBy w' (some gb)→w'.heap.size=w.heap.size→G P n ops dr l (E.put d (.int .i64 (min sl dl:Nat))) w' K) (hx:E.look x=some (.slice dp dl dc):=by exact rfl) (hy:E.look y=some (.slice q sl sc):=by exact rfl) (hdp:dp=some ⟨gb,o,none⟩:=by exact rfl) (hq:vs≠[]→∃b' o',q=some ⟨b',o',none⟩) (hn:vs.length=min sl dl * sz:=by (rw [hvl];omega)) (hfit:o+vs.length≤cur.length) (h1:∀v∈vs,v.oneCell'=true) (hsz:0<sz:=by decide) (he:Am P dr.1 ⟨d,.call ⟨.builtin .copy,#[x,y],#[t,t']⟩,ty,pos,af,g⟩=true:=by exact rfl) (hw:writes dr.1 ⟨d,.call ⟨.builtin .copy,#[x,y],#[t,t']⟩,ty,pos,af,g⟩=true:=by exact rfl) (hd:Ah n d=true:=by exact rfl):G1 P n ops dr ⟨d,.call ⟨.builtin .copy,#[x,y],#[t,t']⟩,ty,pos,af,g⟩ l E w K:=Zz vs hu hx hy hdp hb hq hn hsrc hfit h1 hsz he hw hd h
theorem Zau {α:Type} {e:Enc α} {xs:List α} {kq kn:IntKind} {kk:Nat} (hu:Ab P t u sz by_) (hi:P.underlying t'=some (.int kn)) (hx:E.look x=some (.slice p len c)) (hy:E.look y=some (.int kq j)) (hj:j=(kk:Int)) (hs:Sl w.heap e p c xs) (hlen:len=xs.length) (hm:m=xs.length+kk) (hsz:e.sz=sz) (hk:0<kk) (hg:c<xs.length+kk)
  (hb:(xs.length+kk) * by_≤140737488355328) (hmax:xs.length+kk≤9223372036854775807)
  (he:Am P dr.1 ⟨d,.call ⟨.builtin .append,#[x,y],#[t,t']⟩,ty,pos,af,g⟩=true) (hd:Ah n d=true)
  (h:∀c' w' cur,Blk w'.heap w.heap.size u cur→cur.length=c' * sz→cur.take (xs.length * sz)=xs.flatMap e.enc→xs.length+kk≤c'→c'≤maxLen→Ext w w'→w'.heap.size=w.heap.size+1→G P n ops dr l (E.put d (.slice (bx w.heap.size) m c')) w' K) :
  G1 P n ops dr ⟨d,.call ⟨.builtin .append,#[x,y],#[t,t']⟩,ty,pos,af,g⟩ l E w K:=by
 subst hsz hlen hm hj
 have hpos:=e.pos
 obtain ⟨hu1,inf,z,hinf,hs1,hb1,hz,hz2⟩:=hu
 have hold:(Builtin.firstCells inf.size xs.length (.slice p xs.length c)).run P w.drew=.ok (xs.flatMap e.enc).toArray w.drew:=by
  cases p with
  | none =>
   have h1:=hs.ok.nul rfl
   have h2:=hs.ok.le
   obtain rfl:xs=[]:=List.eq_nil_of_length_eq_zero (by omega)
   simp [Builtin.firstCells]
  | some a =>
   by_cases hne:xs=[]
   ·subst hne
    have:=run_firstCells_some (P:=P) w.drew inf.size 0 a 0 c [] (by simp) (by simp)
    simpa using this
   ·have hl0:0<xs.length:=List.length_pos_iff.2 hne
    have hspot:=hs.ok.spot a rfl (by have:=hs.ok.le;omega)
    exact run_firstCells_some (P:=P) w.drew inf.size xs.length a xs.length c (xs.flatMap e.enc) (by rw [hs1,Az]) (fun j v hv=>by
     have hc:=hs.flat j v hv
     obtain ⟨bb,oo,ss⟩:=a
     simp only at hspot
     subst hspot
     rw [addr_add];exact hc)
 have hbk:kk * by_≤(xs.length+kk) * by_:=Nat.mul_le_mul_right _ (by omega)
 have hr:=Go.Lib.run_append_grow_zeros (P:=P) w t t' ty u inf z kq kn hu1 hi hinf hz p xs.length c (xs.flatMap e.enc) hold kk hk (by omega) hg (by omega) (by rw [hb1];omega) (by rw [hb1];exact growslice_fits hg hb)
 have hge:=grownCap_ge w (xs.length+kk) c u
 have hcm:grownCap w (xs.length+kk) c u≤maxLen:=grownCap_le_maxLen w _ c u (by simp only [maxLen];omega)
 generalize hcur:(xs.flatMap e.enc).toArray++Builtin.zeroCells z.cells kk++Builtin.zeroCells z.cells (grownCap w (xs.length+kk) c u - (xs.length+kk))=cur at hr
 refine Zs (.slice (some ⟨w.heap.size,0,none⟩) (xs.length+kk) (grownCap w (xs.length+kk) c u)) (w.drew.alloc (.cells cur u)) he hd (fun a ha=>by simp [execOp,resolve,invoke,builtin,ha.eval hx,ha.eval hy,hr]) (.inr ?_) (h _ _ cur.toList ?_ ?_ ?_ hge hcm ?_ (by simp))
 ·exact (Ext.alloc (Ext.drew Ext.rfl') _).toS
 ·unfold Blk;rw [Array.toArray_toList];exact heap_alloc_new w.drew _
 ·rw [← hcur]
  simp only [Array.length_toList,Array.size_append,List.size_toArray,size_zeroCells,hz2,Az]
  rw [← Nat.add_mul,← Nat.add_mul]
  congr 1
  omega
 ·rw [← hcur]
  simp only [Array.toList_append]
  rw [List.append_assoc,List.take_left' (by rw [Az])]
 ·exact Ext.alloc (Ext.drew Ext.rfl') _
theorem Q83 {f : FuncId} {fn : Func} {tS : Nat} {tR : Nat} {T : Nat} {T' : Nat} {ab : Nat} {bb : Nat} {ca : List Value} {cb : List Value} {ao : Nat} {bo : Nat} {la : Nat} {lb : Nat} {cpa : Nat} {cpb : Nat} {tys : Array TypeId} (hf : P.funcs[f]? = some fn) (hn : Extern.findNext fn = none) (hfi : Extern.find fn = some (Extern.SlicesOverlaps.overlaps #[tS, tS] #[tR])) (hu : Ab P tS u sz by_) (hp : p = some ⟨ab, ao, none⟩) (hA : Blk w.heap ab T ca) (hB : Blk w.heap bb T' cb) (h : G P n ops dr l (E.put d (.bool false)) w K) (hname : (fn.name == "runtime.NumGoroutine") = false := by exact rfl) (hb : fn.body.isNone = true := by exact rfl) (hx : E.look x = some (.slice p la cpa) := by exact rfl) (hy : E.look y = some (.slice q lb cpb) := by exact rfl) (hq : q = some ⟨bb, bo, none⟩) (hne : ab ≠ bb := by (rintro rfl; exact hne rfl)) (hcb : cb ≠ [] := by (intro e; rw [e] at hcl; simp at hcl; omega)) (he : Am P dr.1 ⟨d, .call ⟨.value (.func f), #[x, y], tys⟩, ty, pos, af, g⟩ = true := by exact rfl) (hd : Ah n d = true := by exact rfl) : G1 P n ops dr ⟨d, .call ⟨.value (.func f), #[x, y], tys⟩, ty, pos, af, g⟩ l E w K := by
 subst hp hq
 have hr:(callFunc f #[.slice (some ⟨ab,ao,none⟩) la cpa,.slice (some ⟨bb,bo,none⟩) lb cpb]).run P w=.ok (.value (.bool false)) w:=by
  unfold Blk at hA hB
  rw [run_callFunc_extern hf hname hb hn hfi,Go.Lib.run_overlaps_apart w tS tR u hu.1 sz (CV hu) ⟨ab,ao,none⟩ ⟨bb,bo,none⟩ la cpa lb cpb hne T T' ca.length cb.length (by simp [World.shape?,hA]) (by simp [World.shape?,hB]) (by simp [hcb]) (by simp [World.frozen?,hA]) (by simp [World.frozen?,hA])]
  rfl
 exact Zs _ w he hd (fun a ha=>by
  have e0:a.eval (.func f)=.func (.func f) #[] #[]:=rfl
  simp [execOp,resolve,Deferred.ofValue,e0,invoke,ha.eval hx,ha.eval hy,hr]) (.inr Bd.rfl') h
variable {t t' : TypeId} {b : Nat}
theorem ZI {q:Nat} {s:ByteArray} (hu:Ap P t) (hx:E.look x=some (.string s)) (hy:E.look y=some (.int k j)) (hj:j=(q:Int)) (hq:q<s.size) (hd:Ah n d=true)
  (h:G P n ops dr l (E.put d (.int .u8 ((BA s q).toNat:Int))) w K):G1 P n ops dr ⟨d,.index t x y,ty,pos,af,g⟩ l E w K:=by
 subst hj
 refine ZaD hu hx hy (by omega) (by omega) hd ?_
 rw [Int.toNat_natCast];exact h
theorem Q37 {q:Nat} {s:ByteArray} (hu:Ap P t) (h:G P n ops dr l (E.put d (.int .u8 ((BA s q).toNat:Int))) w K) (hx:E.look x=some (.string s):=by exact rfl) (hy:E.look y=some (.int k j):=by exact rfl) (hj:j=(q:Int):=by exact rfl) (hq:q<s.size:=by omega) (hd:Ah n d=true:=by exact rfl):G1 P n ops dr ⟨d,.index t x y,ty,pos,af,g⟩ l E w K:=ZI hu hx hy hj hq hd h
def over (xs:List UInt8) (o:Nat) (bs:List UInt8):List UInt8:=xs.take o++bs++xs.drop (o+bs.length)
variable {u : TypeId}
variable {t : Nat} {s : ByteArray}
theorem Zao (hu:Ap P t) (hx:E.look x=some (.string s)) (hy:E.look y=some (.int k i)) (h0:0≤i) (h1:i≤s.size) (hd:Ah n d=true)
  (h:G P n ops dr l (E.put d (.string (s.extract 0 i.toNat))) w K):G1 P n ops dr ⟨d,.slice t x none (some y) none,ty,pos,af,g⟩ l E w K :=
 Zd _ hd (fun a ha w' _=>by
  simp [execOp,Instr.sliceAt,Instr.slice,Instr.sliceBounds,Instr.sliceBound,asIntOf,ha.eval hx,ha.eval hy,run_underlying (P:=P) hu,h0,h1]) h
theorem Q92 (hu:Ap P t) (h:G P n ops dr l (E.put d (.string (s.extract 0 i.toNat))) w K) (hx:E.look x=some (.string s):=by exact rfl) (hy:E.look y=some (.int k i):=by exact rfl) (h0:0≤i:=by omega) (h1:i≤s.size:=by omega) (hd:Ah n d=true:=by exact rfl):G1 P n ops dr ⟨d,.slice t x none (some y) none,ty,pos,af,g⟩ l E w K:=Zao hu hx hy h0 h1 hd h
theorem Zap (hu:Ap P t) (hx:E.look x=some (.string s)) (hy:E.look y=some (.int k i)) (h0:0≤i) (h1:i≤s.size) (hd:Ah n d=true)
  (h:G P n ops dr l (E.put d (.string (s.extract i.toNat s.size))) w K):G1 P n ops dr ⟨d,.slice t x (some y) none none,ty,pos,af,g⟩ l E w K :=
 Zd _ hd (fun a ha w' _=>by
  simp [execOp,Instr.sliceAt,Instr.slice,Instr.sliceBounds,Instr.sliceBound,asIntOf,ha.eval hx,ha.eval hy,run_underlying (P:=P) hu,h0,h1]) h
theorem Q127 (hu:Ap P t) (hx:E.look x=some (.string s)) (hy:E.look y=some (.int k i)) (hd:Ah n d=true) (h:G P n ops dr l (E.put d (.string (s.extract i.toNat s.size))) w K) (h0:0≤i) (h1:i≤s.size):G1 P n ops dr ⟨d,.slice t x (some y) none none,ty,pos,af,g⟩ l E w K:=Zap hu hx hy h0 h1 hd h
theorem BR (l:List UInt8):(Af l).size=l.length:=by simp [Af,ByteArray.size]
theorem Km (l:List UInt8) (k:Nat):(Af l).extract 0 k=Af (l.take k):=by
 unfold Af;rw [ByteArray.extract_mk];simp
theorem Fz {a b:List UInt8}:Af a=Af b ↔ a=b:=by
 constructor
 ·intro h
  have:(Af a).data.toList=(Af b).data.toList:=by rw [h]
  simpa [Af] using this
 ·rintro rfl;rfl
variable {t : TypeId}
theorem Q87 {r:Int} (hr:i.tmod j=r) (h:G P n ops dr l (E.put d (.int k r)) w K) (hx:E.look x=some (.int k i):=by exact rfl) (hy:E.look y=some (.int k j):=by exact rfl) (h0:j≠0:=by decide) (hd:Ah n d=true:=by exact rfl):G1 P n ops dr ⟨d,.binOp .rem t x y t',ty,pos,af,g⟩ l E w K:=by
 subst hr;exact Zbc hx hy h0 hd h
theorem Q30 {bs:List UInt8} {dq:Nat} {m:Nat} (hu:Ab P t u 1 by_) (hi:Ao P u .u8) (hk:Ap P t') (h:G P n ops (dq,[]) l (E.put d (.string (Af bs))) w K) (hx:E.look x=some (.slice p m c):=by exact rfl) (hm:m=bs.length:=by omega) (hs:Sl w.heap Ai p c bs) (hd:Ah n d=true:=by exact rfl):G1 P n ops (dq,[]) ⟨d,.convert t t' x,ty,pos,af,g⟩ l E w K:=by
 subst hm;exact Zaq hu hi hk hx hs hd h
theorem Q113 {α:Type} {sz:Nat} {m:Nat} (e:Enc α) (el:α) {zv:Value} (hu:Ab P t u sz by_) (hx:E.look x=some (.int k i)) (hy:E.look y=some (.int k' i)) (hi:i=(m:Int)) (hsz:e.sz=sz) (hzv:Ag P u zv) (hel:zv.cells.toList=e.enc el) (he:Am P dr.1 ⟨d,.makeSlice t x y,ty,pos,af,g⟩=true) (hd:Ah n d=true) (h:∀p' w',Go.V.Own w' w.heap.size u e p' m (List.replicate m el)→Ext w w'→w'.heap.size=w.heap.size+1→G P n ops dr l (E.put d (.slice p' m m)) w' K) (h1:by_ * m≤281474976710656) (h2:m≤9223372036854775807):G1 P n ops dr ⟨d,.makeSlice t x y,ty,pos,af,g⟩ l E w K:=by
 subst hi
 refine ZaJ e el hu hx hy hsz hzv hel (by omega) (by have:=Int.ofNat_le.2 h1;rw [Int.natCast_mul] at this;exact this) (by omega) he hd (fun p' w' h3 h4 h5=>?_)
 rw [List.length_replicate,Int.toNat_natCast]
 rw [Int.toNat_natCast] at h3
 exact h p' w' h3 h4 h5
end Go.V
namespace Go.Proofs.YtkcolpfanmdmiaaGreatDoor
open Go.V
attribute [local irreducible] Blk Own hcell Ao Ab PlainT Ak Ad Ap Aa Ag EqT Au
def CL (w : World) : Prop := ∃ t1 p1 t2 p2, w.var? Tryz.prog "strconv.ErrSyntax" = some #[.iface t1 p1] ∧ w.var? Tryz.prog "strconv.ErrRange" = some #[.iface t2 p2]
theorem CL.ext {w w':World} (h:CL w) (hx:Ext w w'):CL w':=by
 obtain ⟨t1,p1,t2,p2,h1,h2⟩:=h
 exact ⟨t1,p1,t2,p2,FD h1 hx,FD h2 hx⟩
theorem XI {s:ByteArray} {w:World} (hs:s.size≤1000000) (hno:∀v,Lib.parseIntB 64 s.data.toList≠.ok v) (hE:CL w):Ctr Tryz.prog 189 [.string s,.int .i64 10,.int .i64 64] w (fun r w'=>∃v t p,r=.tuple #[.int .i64 v,.iface t p]∧Ext w w'):=by
 obtain ⟨t1,p1,t2,p2,h1,h2⟩:=hE
 unfold Ctr
 refine ⟨⟨Tryz.f189,Tryz.func189,by decide,rfl⟩,?_⟩
 rcases hp:Lib.parseIntB 64 s.data.toList with v|_|_
 ·exact absurd hp (hno v)
 ·exact Calls.mono (Any.strconv_ParseInt_10_at64_syntax_var Tryz.layPI s (by omega) hp t1 p1 w h1) fun e w' ⟨N,he,_,_,hb⟩=>⟨_,he,⟨_,_,_,rfl,hb⟩⟩
 ·exact Calls.mono (Any.strconv_ParseInt_10_at64_range_var Tryz.layPI s (by omega) hp t2 p2 w h2) fun e w' ⟨N,he,_,_,hb⟩=>⟨_,he,⟨_,_,_,rfl,hb⟩⟩
theorem EF {s:ByteArray} {n:Int} {w:World} (h:Cq s n) (hT:Pow w):Ctr Tryz.prog 125 [.string s] w (fun r w'=>r=.tuple #[.int .i64 n,.bool true]∧Ext w w'):=by
 obtain ⟨hf,rfl⟩:=h
 exact Uy (Ex hf) (by rw [CB];exact PQ hf) hf.1 hf.2 rfl hT
theorem Sk {s:ByteArray} {w:World} (hno:∀n,¬Cq s n) (hT:Pow w) (hE:CL w):Ctr Tryz.prog 125 [.string s] w (fun r w'=>r=.tuple #[.int .i64 0,.bool false]∧Ext w w'):=by
 refine Ac Tryz.func125 Tryz.ntmps125 rfl rfl rfl ?_
 by_cases hok:∃v,Lib.parseIntB 64 s.data.toList=.ok v
 ·obtain ⟨v,hp⟩:=hok
  have hfv:=Sq hp
  have hne:¬CK v=s:=fun he=>hno v ⟨hfv,he⟩
  repeat' (first|refine R1 ?_|(refine Q1 ?_;first|(refine Q4 (f:=189) (hc:=WZ (by omega) hp) ?_;rintro _ w2 ⟨rfl,hx2⟩;refine Kc ?_)|refine Q73 Tryz.underlying298 ?_|(refine Q4 (f:=94) (hc:=EI hfv.1 hfv.2 (TabIs.ext hT hx2)) ?_;rintro _ w3 ⟨rfl,hx3⟩;refine Kc ?_)|refine Q17 T.str9 ?_)|refine R2 ?_|(apply Za;exact rfl;all_goals (intro h;try (exfalso;omega)))|fail)
  all_goals try (exfalso;exact hne (by first|assumption|simpa using h);done)
  all_goals
   refine Kr Tryz.results125 ?_
   exact ⟨rfl,Kz⟩
 ·have hb:∀v,Lib.parseIntB 64 s.data.toList≠.ok v:=fun v hv=>hok ⟨v,hv⟩
  repeat' (first|refine R1 ?_|(refine Q1 ?_;first|(refine Q4 (f:=189) (hc:=XI (by omega) hb hE) ?_;rintro _ w2 ⟨v,t,p,rfl,hx2⟩;refine Kc ?_)|refine Q100 Tryz.underlying298 rfl rfl ?_|refine Q17 T.str9 ?_)|refine R2 ?_|(apply Za;exact rfl;all_goals (intro h;try (exfalso;omega)))|fail)
  all_goals
   refine Kr Tryz.results125 ?_
   exact ⟨rfl,Kz⟩
end Go.Proofs.YtkcolpfanmdmiaaGreatDoor
