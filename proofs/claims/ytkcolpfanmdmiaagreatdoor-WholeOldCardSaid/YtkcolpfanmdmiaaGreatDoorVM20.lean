/- Texts of this proof laid together. -/
import Derived.Test.YtkcolpfanmdmiaaGreatDoorVM19
set_option maxHeartbeats 8000000
open Go Go.V
variable {af : Array Edge} {ops : Array Oper} {buf : Array Value} {Ψ : Bg → (Nat → Nat) → World → Prop} {key name num s : ByteArray} {E : Env} {K : Env → World → Prop} {clk cn log slot : Int} {l xs : List ByteArray} {lasts : List Int} {U : List Nat} {ds : List Sec} {ts : List TG} {out outs : List UInt8} {vs : List Ver} {N0 b cl co d d1 d2 dc dk dq each f hb i ix j jw k kp last lg m mark n nn qc sb ss st used : Nat} {dr : Nat × List Nat} {ou : Nat → List UInt8} {g : Nat → Nat} {F : Nat → Prop} {x y : Operand} {dp po q q1 q2 : Option Addr} {P : Program} {pos : String} {t t' ty : TypeId} {y1 : Value} {W0 w : World}
namespace Go.Proofs.YtkcolpfanmdmiaaGreatDoor
open Go.V
attribute [local irreducible] Blk Own hcell Ao Ab PlainT Ak Ad Ap Aa Ag EqT Au
theorem SlT.drop {α:Type} {e:Enc α} {g:Nat→Nat} {w:World} {j:Nat} {p:Option Addr} {c:Nat} {xs:List α} (h:SlT g w j e p c xs) {m:Nat} (hm:m≤xs.length):SlT g w j e (AP p c m e.sz) (c - m) (xs.drop m) :=
 ⟨h.sl.drop (Nat.le_trans hm h.sl.ok.le),fun a ha=>by
  unfold AP at ha
  split at ha
  ·exact h.tag a ha
  ·cases p with
   | none=>simp at ha
   | some b=>simp [Addr.add] at ha;subst ha;have:=h.tag b rfl;split <;> exact this⟩
variable {fb nq : Nat}
theorem Ia (hst:∀R g1 w1 g2 w2,Ψ R g1 w1→Stq ix [0] g1 g2 w1 w2→Ψ R g2 w2) (h0U:0 ∉ U) (hC:Blk w.heap cl 190 [.pointer (some (adr (bx m) 0)),y1]) (hA:SlT g w jw Ar q dq (name :: xs)) (hn:name.size≤1000) (hno:∀b∈name.data.toList,¬(97≤b.toNat∧b.toNat≤122))
  (hown:∀w1,Ctr Tryz.prog 88 [.pointer (some (adr (bx cl) 0)),.string name] w1 (fun v w'=>v=.tuple #[.nilFunc,.int .i64 0,.int .i64 0]∧Ext w1 w'))
  (hgrp:∀w1,Ctr Tryz.prog 90 [.string name] w1 (fun v w'=>v=.func (.func f) #[] #[]∧Ext w1 w'))
  (hdata:∀w1 q' d',Ext w w1→SlT (rt g w 0) w1 jw Ar q' d' xs→Ctr Tryz.prog 91 [.pointer (some (adr (bx cl) 0)),.func (.func f) #[] #[],.string name,.slice q' xs.length d'] w1 (fun v w'=>∃R,v=.agg (Aq.enc R).toArray∧∃g',Stq ix U (rt g w 0) g' w1 w'∧Ψ R g' w')) :
  Ctr Tryz.prog 58 [.pointer (some (adr (bx cl) 0)),.slice q (name :: xs).length dq] w (fun v w'=>∃R,v=.tuple #[.agg (Aq.enc R).toArray,.bool false]∧∃g',Stq ix U g g' w w'∧Ψ R g' w'):=by
 refine Ac Tryz.func58 Tryz.ntmps58 rfl rfl rfl ?_
 repeat' (refine R1 ?_)
 refine Q1 ?_;refine Q7 T.zero33 ?_;intro a4 w1 ha4 hA4 hx1 hs1
 have hC1:=hC.ext hx1
 have hS1:=hA.sl.ext hx1
 repeat' (first|refine R1 ?_|(refine Q1 ?_;first|(refine Q15 Tryz.underlying125 (t:=125) ?_)|(refine Q15 Tryz.underlying46 (t:=46) ?_)|(refine Q2 (hu:=T.f190_0) ?_)|(refine Q3 (hu:=T.p46) ?_)|(refine Q6 (hu:=T.s61) ?_))|refine R2 ?_|refine Zf 1 [] [0,1,2,4,5,3,6,7] mixed (by decide +kernel) ?_|fail)
 all_goals try (exfalso;simp only [List.length_cons] at *;omega)
 have hA1:=hA.ext hx1 0
 have hK4:Bk (rt g w 0) w1 0 a4 33 _:=Bk.new hA4 (by omega) (by unfold ixT;decide)
 have hgt:(name :: xs)[0]?=some name:=rfl
 repeat' (first|refine R1 ?_|(refine Q1 ?_;first|(refine Q10 T.s61 hS1.ok (q:=0) (h1:=by (simp)) ?_)|(refine Q9 T.p9 (q:=0) (e:=Ar) (hs:=hS1) (hq:=hgt) ?_)|(refine Q4 (f:=87) (hc:=GK hn hno) ?_;rintro _ w2 ⟨rfl,hx2⟩;refine Kc ?_;replace hC1:=hC1.ext (Kx hx2))|(refine Q18 T.s61 hS1.ok (q:=1) (hq:=by (simp)) ?_))|fail)
 replace hx2:=(Ext.drew Ext.rfl').trans hx2
 refine Q1 ?_;refine Q4 (hc:=hown w2) ?_;rintro _ w3 ⟨rfl,hx3⟩;refine Kc ?_
 repeat' (first|refine R1 ?_|(refine Q1 ?_;(refine Q102 Tryz.underlying200 rfl rfl rfl (t:=200) ?_))|refine R2 ?_|fail)
 all_goals try (exfalso;simp only at *;omega)
 refine Q1 ?_;refine Q4 (hc:=hgrp w3) ?_;rintro _ w4 ⟨rfl,hx4⟩;refine Kc ?_
 have hx24:=hx3.trans hx4
 have hx14:=hx2.trans hx24
 repeat' (first|refine R1 ?_|(refine Q1 ?_;(refine Q101 Tryz.underlying205 rfl rfl rfl (t:=205) ?_))|refine R2 ?_|fail)
 all_goals try (exfalso;simp only at *;omega)
 have hA4:SlT (rt g w 0) w4 jw Ar (AP q dq 1 1) (dq - 1) xs:=((hA1.drop (m:=1) (by simp)).stp (ix:=ix) (T:=[]) (Stq.of_ext' hx14) (by simp))
 refine Q1 ?_;refine Q4 (hc:=hdata w4 _ _ (hx1.trans hx14) hA4) ?_;rintro _ w5 ⟨R,rfl,g5,hS5,hΨ⟩;refine Kc ?_
 have hK48:=(hK4.ext' hx14).stp hS5 h0U
 have hb48:=hK48.blk
 skip
 refine Q1 ?_;refine Q5 T.z33 hb48 ?_;intro wz hbz hgz hsz
 replace hbz:Blk wz.heap a4 33 (Aq.enc R):=hbz
 repeat' (first|refine R1 ?_|refine R2 ?_|fail)
 refine Ze Tryz.results58 ⟨_,_,_,rfl,rfl,Ae T.a33 (by assumption) rfl,_,_,rfl,rfl,rfl⟩ ?_
 have hSz:=hK48.stpG (T:=[0]) (ix:=ix) hgz 0 (by decide)
 exact ⟨R,rfl,_,((Stq.of_ext (ix:=ix) (T:=U) (g:=g) (hx1.trans hx14) 0).trans hS5).own hgz (by omega) 0,hst _ _ _ _ _ hΨ hSz⟩
theorem WB (hst:∀R g1 w1 g2 w2,Ψ R g1 w1→Stq ix [0] g1 g2 w1 w2→Ψ R g2 w2) (h0U:0 ∉ U) (hC:Blk w.heap cl 190 [.pointer (some (adr (bx m) 0)),y1]) (hA:SlT g w jw Ar q dq (El :: xs))
  (hdata:∀w1 q' d',Ext w w1→SlT (rt g w 0) w1 jw Ar q' d' xs→Ctr Tryz.prog 130 [.pointer (some (adr (bx cl) 0)),.slice q' xs.length d'] w1 (fun v w'=>∃R,v=.agg (Aq.enc R).toArray∧∃g',Stq ix U (rt g w 0) g' w1 w'∧Ψ R g' w')) :
  Ctr Tryz.prog 58 [.pointer (some (adr (bx cl) 0)),.slice q (El :: xs).length dq] w (fun v w'=>∃R,v=.tuple #[.agg (Aq.enc R).toArray,.bool false]∧∃g',Stq ix U g g' w w'∧Ψ R g' w'):=by
 have hn:El.size≤1000:=by decide
 have hno:∀b∈El.data.toList,¬(97≤b.toNat∧b.toNat≤122):=by decide
 obtain ⟨name,hname⟩:∃name,name=El:=⟨_,rfl⟩
 rw [← hname] at hn hno hA ⊢
 refine Ac Tryz.func58 Tryz.ntmps58 rfl rfl rfl ?_
 repeat' (refine R1 ?_)
 refine Q1 ?_;refine Q7 T.zero33 ?_;intro a4 w1 ha4 hA4 hx1 hs1
 have hC1:=hC.ext hx1
 have hS1:=hA.sl.ext hx1
 repeat' (first|refine R1 ?_|(refine Q1 ?_;first|(refine Q15 Tryz.underlying125 (t:=125) ?_)|(refine Q15 Tryz.underlying46 (t:=46) ?_)|(refine Q2 (hu:=T.f190_0) ?_)|(refine Q3 (hu:=T.p46) ?_)|(refine Q6 (hu:=T.s61) ?_))|refine R2 ?_|refine Zf 1 [] [0,1,2,4,5,3,6,7] mixed (by decide +kernel) ?_|fail)
 all_goals try (exfalso;simp only [List.length_cons] at *;omega)
 have hA1:=hA.ext hx1 0
 have hK4:Bk (rt g w 0) w1 0 a4 33 _:=Bk.new hA4 (by omega) (by unfold ixT;decide)
 have hgt:(name :: xs)[0]?=some name:=rfl
 repeat' (first|refine R1 ?_|(refine Q1 ?_;first|(refine Q10 T.s61 hS1.ok (q:=0) (h1:=by (simp)) ?_)|(refine Q9 T.p9 (q:=0) (e:=Ar) (hs:=hS1) (hq:=hgt) ?_)|(refine Q4 (f:=87) (hc:=GK hn hno) ?_;rintro _ w2 ⟨rfl,hx2⟩;refine Kc ?_;replace hC1:=hC1.ext (Kx hx2))|(refine Q18 T.s61 hS1.ok (q:=1) (hq:=by (simp)) ?_))|fail)
 subst hname
 replace hx2:=(Ext.drew Ext.rfl').trans hx2
 refine Q1 ?_;refine Q4 (hc:=Sm) ?_;rintro _ w4 ⟨rfl,hx4⟩;refine Kc ?_
 have hx14:=hx2.trans hx4
 repeat' (first|refine R1 ?_|(refine Q1 ?_;(refine Q103 Tryz.underlying200 (t:=200) ?_))|refine R2 ?_|fail)
 all_goals try (exfalso;simp only at *;omega)
 have hA4:SlT (rt g w 0) w4 jw Ar (AP q dq 1 1) (dq - 1) xs:=((hA1.drop (m:=1) (by simp)).stp (ix:=ix) (T:=[]) (Stq.of_ext' hx14) (by simp))
 refine Q1 ?_;refine Q22 (hc:=hdata w4 _ _ (hx1.trans hx14) hA4) ?_;rintro _ w5 ⟨R,rfl,g5,hS5,hΨ⟩;refine Kc ?_
 have hK48:=(hK4.ext' hx14).stp hS5 h0U
 have hb48:=hK48.blk
 repeat' (refine Q1 ?_;first|refine Q19 ?_|refine Q124 ?_)
 refine Q1 ?_;refine Q5 T.z33 hb48 ?_;intro wz hbz hgz hsz
 replace hbz:Blk wz.heap a4 33 (Aq.enc R):=hbz
 repeat' (first|refine R1 ?_|refine R2 ?_|fail)
 refine Ze Tryz.results58 ⟨_,_,_,rfl,rfl,Ae T.a33 (by assumption) rfl,_,_,rfl,rfl,rfl⟩ ?_
 have hSz:=hK48.stpG (T:=[0]) (ix:=ix) hgz 0 (by decide)
 exact ⟨R,rfl,_,((Stq.of_ext (ix:=ix) (T:=U) (g:=g) (hx1.trans hx14) 0).trans hS5).own hgz (by omega) 0,hst _ _ _ _ _ hΨ hSz⟩
def dec (n:Nat):List UInt8:=Lib.itoa (n:Int)
theorem Xv (n:Nat):dec n=Lib.decDigits n:=by
 unfold dec Lib.itoa
 rw [if_neg (by omega),Int.toNat_natCast]
theorem NA {n:Nat}:∀c∈dec n,c≠10:=by
 intro c hc e
 rw [Xv] at hc
 have:=FU n c hc
 rw [e] at this
 simp at this
theorem Ee {n:Nat} (h:n≤1000000000):(dec n).length≤20:=by
 have:=Ex (n:=(n:Int)) (by unfold AC;omega)
 rw [Di,CB] at this
 exact this
theorem Qy {n:Nat} (h:n≤1000000000):numOf (dec n)=some (n:Int):=Fe (by unfold AC;omega)
theorem Ko:∀{s:List UInt8} (m:List UInt8),(∀c∈s,c≠10)→BJ (s++10 :: m)=s.length
 | [],m,_=>by simp [BJ]
 | b :: s,m,h=>by
  rw [List.cons_append]
  unfold BJ
  rw [if_neg (h b (by simp)),Ko m (fun c hc=>h c (by simp [hc])),List.length_cons]
theorem QG {s:List UInt8} (m:List UInt8) (h:∀c∈s,c≠10) (hl:s.length≤1024):Dn (s++13 :: 10 :: m)=.ok s (s.length+2):=by
 have e1:s++13 :: 10 :: m=(s++[13])++10 :: m:=by simp
 have e2:BJ (s++13 :: 10 :: m)=s.length+1:=by
  rw [e1,Ko m (fun c hc=>by
   rcases List.mem_append.1 hc with hc|hc
   ·exact h c hc
   ·rw [List.mem_singleton.1 hc];decide)]
  simp
 unfold Dn
 rw [e2,if_pos ⟨by simp,by omega⟩]
 have e3:(s++13 :: 10 :: m).getD (s.length+1 - 1) 0=13:=by
  rw [List.getD_eq_getElem?_getD,Nat.add_sub_cancel,List.getElem?_append_right (Nat.le_refl _),Nat.sub_self]
  rfl
 rw [e3,if_neg (by simp),Nat.add_sub_cancel,List.take_left' rfl]
theorem SL {n:Nat} (m:List UInt8) (h1:1≤n) (h2:n≤128):Bf rs0 ((42 :: dec n)++13 :: 10 :: m)=.go ⟨n,-1,[],(dec n).length+3⟩ ((dec n).length+3) []:=by
 have hd:=Ee (n:=n) (by omega)
 have hl:=QG m (s:=42 :: dec n) (fun c hc=>by
  rcases List.mem_cons.1 hc with hc|hc
  ·rw [hc];decide
  ·exact NA c hc) (by rw [List.length_cons];omega)
 unfold Bf
 rw [if_pos (show rs0.left=0 from rfl),hl]
 simp only
 rw [if_pos (show (42 :: dec n).head?=some 42 from rfl)]
 have e:Dy (42 :: dec n) 42 1 128=.ok (n:Int):=by
  unfold Dy
  simp only
  rw [if_pos trivial,Qy (by omega)]
  simp only
  rw [if_neg (by omega),if_neg (by omega)]
 rw [e]
 simp only [List.length_cons,Int.toNat_natCast]
theorem OA {r:RS} {n:Nat} (m:List UInt8) (hr:0<r.left) (hz:r.size<0) (h2:n≤4096):Bf r ((36 :: dec n)++13 :: 10 :: m)=.go { r with size:=(n:Int),held:=r.held+((dec n).length+3) } ((dec n).length+3) []:=by
 have hd:=Ee (n:=n) (by omega)
 have hl:=QG m (s:=36 :: dec n) (fun c hc=>by
  rcases List.mem_cons.1 hc with hc|hc
  ·rw [hc];decide
  ·exact NA c hc) (by rw [List.length_cons];omega)
 unfold Bf
 rw [if_neg (by omega),if_pos hz,hl]
 simp only
 have e:Dy (36 :: dec n) 36 0 4096=.ok (n:Int):=by
  unfold Dy
  simp only
  rw [if_pos trivial,Qy (by omega)]
  simp only
  rw [if_neg (by omega),if_neg (by omega)]
 rw [e]
 simp only [List.length_cons]
theorem SN {r:RS} {s:List UInt8} (m:List UInt8) (hr:0<r.left) (hz:r.size=(s.length:Int)):Bf r (s++13 :: 10 :: m)=if r.left=1 then .go rs0 (s.length+2) [r.words++[Af s]] else .go ⟨r.left - 1,-1,r.words++[Af s],r.held+(s.length+2)⟩ (s.length+2) []:=by
 have hn:r.size.toNat=s.length:=by rw [hz,Int.toNat_natCast]
 unfold Bf
 rw [if_neg (by omega),if_neg (by omega),hn,if_neg (by simp),List.drop_left' rfl,if_pos (show List.take 2 (13 :: 10 :: m)=[13,10] from rfl),List.take_left' rfl]
def bytesOf (w:ByteArray):List UInt8:=w.data.toList
theorem NT (w:ByteArray):Af (bytesOf w)=w:=by
 unfold Af bytesOf
 simp
theorem Fy (w:ByteArray):(bytesOf w).length=w.size:=by
 unfold bytesOf
 rw [Array.length_toList];rfl
def prW (w:ByteArray):List UInt8:=(36 :: dec w.size)++13 :: 10 :: (bytesOf w++[13,10])
def DV (n:Nat):List UInt8:=(42 :: dec n)++[13,10]
def prB (l:List ByteArray):List UInt8:=DV l.length++l.flatMap prW
structure FE (l:List ByteArray):Prop where
 pos:l≠[]
 len:l.length≤128
 words:∀w∈l,w.size≤4096
open Classical in
noncomputable def prC (l:List ByteArray):List UInt8:=if FE l then prB l else []
theorem UF {n:Nat} {ws:List ByteArray} {h:Nat} {w:ByteArray} (m:List UInt8) (hw:w.size≤4096) :
  ∃h',BD ⟨n+1,-1,ws,h⟩ (prW w++m)=if n=0 then { BD rs0 m with out:=(ws++[w]) :: (BD rs0 m).out } else BD ⟨n,-1,ws++[w],h'⟩ m:=by
 have e1:prW w++m=(36 :: dec w.size)++13 :: 10 :: (bytesOf w++13 :: 10 :: m):=by unfold prW;simp
 have s1:=OA (r:=⟨n+1,-1,ws,h⟩) (n:=w.size) (bytesOf w++13 :: 10 :: m) (by simp) (by simp) hw
 have s2:=SN (r:=⟨n+1,(w.size:Int),ws,h+((dec w.size).length+3)⟩) (s:=bytesOf w) m (by simp) (by rw [Fy])
 have d1:((36 :: dec w.size)++13 :: 10 :: (bytesOf w++13 :: 10 :: m)).drop ((dec w.size).length+3)=bytesOf w++13 :: 10 :: m:=by
  rw [show (36 :: dec w.size)++13 :: 10 :: (bytesOf w++13 :: 10 :: m)=((36 :: dec w.size)++[13,10])++(bytesOf w++13 :: 10 :: m) by simp]
  exact List.drop_left' (by simp)
 have d2:(bytesOf w++13 :: 10 :: m).drop ((bytesOf w).length+2)=m:=by
  rw [show bytesOf w++13 :: 10 :: m=(bytesOf w++[13,10])++m by simp]
  exact List.drop_left' (by simp)
 rw [e1,run_go s1,d1,List.nil_append]
 simp only
 rw [NT] at s2
 by_cases hn:n=0
 ·subst hn
  refine ⟨0,?_⟩
  rw [if_pos rfl] at s2 ⊢
  rw [run_go s2,d2]
  rfl
 ·refine ⟨h+((dec w.size).length+3)+((bytesOf w).length+2),?_⟩
  rw [if_neg (by simp only;omega)] at s2
  rw [if_neg hn,run_go s2,d2]
  rfl
theorem Mc:∀(l:List ByteArray) (ws:List ByteArray) (h:Nat) (m:List UInt8),l≠[]→(∀w∈l,w.size≤4096)→BD ⟨l.length,-1,ws,h⟩ (l.flatMap prW++m)={ BD rs0 m with out:=(ws++l) :: (BD rs0 m).out }
 | [],_,_,_,h,_=>absurd rfl h
 | w :: l,ws,h,m,_,hw=>by
  rw [List.flatMap_cons,List.append_assoc,List.length_cons]
  obtain ⟨h',e⟩:=UF (n:=l.length) (ws:=ws) (h:=h) (l.flatMap prW++m) (hw w (by simp))
  rw [e]
  by_cases hl:l.length=0
  ·obtain rfl:l=[]:=List.eq_nil_of_length_eq_zero hl
   rw [if_pos (show ([]:List ByteArray).length=0 from rfl)]
   rfl
  ·rw [if_neg hl,Mc l (ws++[w]) h' m (fun e=>hl (by rw [e];rfl)) (fun x hx=>hw x (by simp [hx]))]
   simp
theorem SC {l:List ByteArray} (m:List UInt8) (h:FE l):BD rs0 (prB l++m)={ BD rs0 m with out:=l :: (BD rs0 m).out }:=by
 have hl:0<l.length:=List.length_pos_iff.2 h.pos
 have s1:=SL (n:=l.length) (l.flatMap prW++m) hl h.len
 have e1:prB l++m=(42 :: dec l.length)++13 :: 10 :: (l.flatMap prW++m):=by unfold prB DV;simp
 have d1:((42 :: dec l.length)++13 :: 10 :: (l.flatMap prW++m)).drop ((dec l.length).length+3)=l.flatMap prW++m:=by
  rw [show (42 :: dec l.length)++13 :: 10 :: (l.flatMap prW++m)=((42 :: dec l.length)++[13,10])++(l.flatMap prW++m) by simp]
  exact List.drop_left' (by simp)
 rw [e1,run_go s1,d1,Mc l [] _ m h.pos h.words]
 rfl
theorem Ws:BD rs0 []=⟨[],rs0,[],0⟩:=by
 refine GG ?_
 unfold Bf
 rw [if_pos (show rs0.left=0 from rfl)]
 rfl
theorem PT {l:List ByteArray} (hl:l.length≤200) (hw:∀w∈l,w.size≤5000):(prB l).length≤30+l.length * 6000:=by
 have key:∀l:List ByteArray,(∀w∈l,w.size≤5000)→(l.flatMap prW).length≤l.length * 6000:=by
  intro l
  induction l with
  | nil=>intro _;simp
  | cons w l ih =>
   intro h
   have h1:=ih (fun x hx=>h x (by simp [hx]))
   have h2:=h w (by simp)
   have h3:=Ee (n:=w.size) (by omega)
   rw [List.flatMap_cons,List.length_append,List.length_cons]
   have h4:(prW w).length=(dec w.size).length+5+w.size:=by unfold prW;simp [Fy];omega
   omega
 have h1:=key l hw
 have h2:=Ee (n:=l.length) (by omega)
 unfold prB DV
 simp only [List.length_append,List.length_cons,List.length_nil]
 omega
end Go.Proofs.YtkcolpfanmdmiaaGreatDoor
namespace Go.V
variable {l : List Oper}
variable {d : Option Nat} {g : Option (Nat × Bool)} {u : TypeId} {a : Addr}
end Go.V
namespace Go.Proofs.YtkcolpfanmdmiaaGreatDoor
open Go.V
attribute [local irreducible] Blk Own hcell Ao Ab PlainT Ak Ad Ap Aa Ag EqT Au
theorem Sr {H:Array Obj} {F:Nat→Prop} {q:Option Addr} {d:Nat} {bs:List UInt8} (h:Sl H Ai q d bs) (hf:∀x,q=some x→bs≠[]→¬F x.block):PartsAt H F [(q,bs.length,d)] [bs] :=
 ⟨rfl,fun i h1 b hi hb=>by
  match i with
  | 0 =>
   obtain rfl:(q,bs.length,d)=h1:=by simpa using hi
   obtain rfl:bs=b:=by simpa using hb
   exact ⟨rfl,h,hf⟩
  | k+1=>simp at hi⟩
structure FdQ (w w':World) (ar a2 a8:Nat) (p0 pw0 p:Option Addr) (y:FdY):Prop where
 gv:Mt w' ar w.heap.size a2 a8 y.pd y.cd y.hs
 cm:Bj w'.heap (fun k=>blk y.pw=some k) y.hs y.ls
 fr:FrS (fun k=>k=ar∨blk p0=some k∨blk pw0=some k) w w'
 np:∀k,blk p=some k→blk p0=some k∨w.heap.size≤k
 npw:∀k,blk y.pw=some k→blk pw0=some k∨w.heap.size≤k
 h8:w.heap.size≤a8
 h2:w.heap.size≤a2
 ob:∀h∈y.hs,∀k,blk h.1=some k→blk pw0=some k∨w.heap.size≤k
structure FdJ (w0 w w':World) (ar B a2 a8:Nat) (p0 pw0 p:Option Addr) (c:Nat) (I:List UInt8) (r0:RS) (y:FdY):Prop where
 rd:Ba w0 w' ar B p c I y.a y.pw y.cw y.r 0
 o:FdQ w w' ar a2 a8 p0 pw0 p y
 run:BD r0 I={ BD y.r (I.drop y.a) with out:=y.ls++(BD y.r (I.drop y.a)).out }
 held:y.r.held+(I.length - y.a)≤1000000000
 good:Ng y.r
 cnt:y.ls.length≤y.a
theorem FdQ.own {w w1 w':World} {ar a2 a8:Nat} {p0 pw0 p:Option Addr} {y:FdY} {cs:List Value} (h:FdQ w w1 ar a2 a8 p0 pw0 p y) (hR:Blk w1.heap ar 192 cs) (hf:FrS (fun q=>q=ar) w1 w'):FdQ w w' ar a2 a8 p0 pw0 p y :=
 ⟨⟨hf.blk h.gv.ptr (fun e=>BB h.gv.ptr hR (by decide) e),hf.blk h.gv.box (fun e=>BB h.gv.box hR (by decide) e),h.gv.row.kept hf.one (fun x hx e=>by injection e with e;exact h.gv.row.apart hx hR (by decide) e)⟩,
  h.cm.fr hf (fun q _ hs hn=>⟨fun e=>IA hR (by decide) (by rw [← e];exact hs),hn⟩),h.fr.trans hf (fun q _ e=>.inl e),h.np,h.npw,h.h8,h.h2,h.ob⟩
structure Tj (w0 w:World) (ar B:Nat) (p pw:Option Addr) (X:Res) (v:Value) (w':World):Prop where
 fr:FrS (fun k=>k=ar∨blk p=some k∨blk pw=some k) w w'
 ex:∃pd cd hs p' c' pw' cw',v=.tuple #[.slice pd hs.length cd,.int .i64 X.err]∧Go.V.Own w' w.heap.size 61 Eu pd cd hs ∧
  Bj w'.heap (fun k=>blk pw'=some k) hs X.out∧(∀k,blk p'=some k→blk p=some k∨w.heap.size≤k)∧(∀k,blk pw'=some k→blk pw=some k∨w.heap.size≤k) ∧
  (X.err=0→Ba w0 w' ar B p' c' X.rest 0 pw' cw' X.st 0)∧(X.err≠0→Ba w0 w' ar B p' c' [] 0 pw' cw' ⟨0,0,[],0⟩ X.err)∧(∀h∈hs,∀k,blk h.1=some k→blk pw=some k∨w.heap.size≤k)
theorem JS {w0 w w1 w':World} {ar B a2 a8 c:Nat} {p0 pw0 p:Option Addr} {I:List UInt8} {y:FdY} {r0:RS} (hR:Ba w0 w1 ar B p c I y.a y.pw y.cw y.r 0) (h:FdQ w w1 ar a2 a8 p0 pw0 p y) (hf:FrS (fun q=>q=ar∨bx q=p) w1 w')
  (hR':Ba w0 w' ar B p c (I.drop y.a) 0 y.pw y.cw y.r 0) (hX:BD r0 I=⟨y.ls,y.r,I.drop y.a,0⟩) :
  Mt w' ar w.heap.size a2 a8 y.pd y.cd y.hs∧∀w2,Ext w' w2→Tj w0 w ar B p0 pw0 (BD r0 I) (.tuple #[.slice y.pd y.hs.length y.cd,.int .i64 0]) w2:=by
 have hbp:∀q,bx q=p→blk p=some q:=fun q e=>by rw [← e];rfl
 have n2:¬(a2=ar∨bx a2=p):=fun e=>e.elim (fun e=>BB h.gv.ptr hR.blk (by decide) e) (fun e=>hR.row.apartB h.gv.ptr (by decide) (hbp _ e))
 have n8:¬(a8=ar∨bx a8=p):=fun e=>e.elim (fun e=>BB h.gv.box hR.blk (by decide) e) (fun e=>hR.row.apartB h.gv.box (by decide) (hbp _ e))
 have hrow:Go.V.Own w' w.heap.size 61 Eu y.pd y.cd y.hs:=h.gv.row.fr hf (fun k hk e=>by
  have hx:∃x,y.pd=some x∧x.block=k:=by
   cases hp:y.pd with
   | none=>rw [hp] at hk;cases hk
   | some x=>rw [hp] at hk;injection hk with hk;exact ⟨x,rfl,hk⟩
  obtain ⟨x,hx,e2⟩:=hx
  subst e2
  rcases e with e|e
  ·exact h.gv.row.apart hx hR.blk (by decide) e.symm
  ·exact h.gv.row.apart2 hR.row (by decide) hx e.symm rfl)
 have hgv:Mt w' ar w.heap.size a2 a8 y.pd y.cd y.hs:=⟨hf.blk h.gv.ptr n2,hf.blk h.gv.box n8,hrow⟩
 refine ⟨hgv,fun w2 hx=>?_⟩
 rw [hX]
 refine ⟨?_,y.pd,y.cd,y.hs,p,c,y.pw,y.cw,rfl,hrow.ext hx,?_,h.np,h.npw,fun _=>hR'.xt hx,fun e=>absurd rfl e,h.ob⟩
 ·exact (h.fr.trans hf (fun q hq e=>e.elim .inl (fun e=>(h.np q (hbp q e)).elim (fun e=>.inr (.inl e)) (fun e=>by omega)))).trans (FrS.of_ext hx) (fun _ _ h=>h)
 ·refine (h.cm.fr hf (fun q _ hs hn=>⟨fun e=>?_,hn⟩)).ext hx
  rcases e with e|e
  ·exact IA hR.blk (by decide) (by rw [← e];exact hs)
  ·exact Hr hR.row (by decide) (hbp q e) hs
theorem EA {w0 w w1 w':World} {ar B a2 a8 c:Nat} {p0 pw0 p:Option Addr} {I:List UInt8} {a cw:Nat} {r:RS} {e:Int} {y:FdY} {r0:RS} (hR:Ba w0 w1 ar B p c I a y.pw cw r e) (h:FdQ w w1 ar a2 a8 p0 pw0 p y) (hf:FrS (fun q=>q=ar) w1 w')
  (hR':Ba w0 w' ar B none 0 [] 0 none 0 { left:=0,size:=0,words:=[],held:=0 } e) (he:e≠0) (hX:(BD r0 I).out=y.ls∧(BD r0 I).err=e) :
  Mt w' ar w.heap.size a2 a8 y.pd y.cd y.hs∧∀w2,Ext w' w2→Tj w0 w ar B p0 pw0 (BD r0 I) (.tuple #[.slice y.pd y.hs.length y.cd,.int .i64 e]) w2:=by
 have h2:=h.own hR.blk hf
 refine ⟨h2.gv,fun w2 hx=>⟨h2.fr.trans (FrS.of_ext hx) (fun _ _ h=>h),y.pd,y.cd,y.hs,none,0,none,0,by rw [hX.2],h2.gv.row.ext hx,?_,fun k hk=>(by cases hk),fun k hk=>(by cases hk),fun e0=>absurd (hX.2.symm.trans e0) he,fun _=>by rw [hX.2];exact hR'.xt hx,h.ob⟩⟩
 rw [hX.1]
 exact h2.cm.fr (FrS.of_ext (F:=fun _=>False) hx) (fun q _ hs hn=>⟨id,fun e=>by cases e⟩)
theorem FdQ.give {w0 w w1 w':World} {ar B a2 a8 c:Nat} {p0 pw0 p:Option Addr} {I:List UInt8} {y:FdY} {a:Nat} {r:RS} {ft:Int} {pd':Option Addr} {cd':Nat} {q:Option Addr} {d m:Nat} {l:List ByteArray} {a':Nat} {r':RS} (h:FdQ w w1 ar a2 a8 p0 pw0 p y) (hR:Ba w0 w1 ar B p c I a y.pw y.cw r ft)
  (hG:Mt w' ar w.heap.size a2 a8 pd' cd' (y.hs++[(q,m,d)])) (hf:FrS (fun k=>k=ar∨k=a8∨bx k=y.pd) w1 w') (_:∀k,blk pd'=some k→blk y.pd=some k∨w1.heap.size≤k) (hm:m=l.length) {Bl:Nat} (hl:Go.V.Own w1 Bl 9 Ar q d l) (hq:∀k,blk q=some k→blk pw0=some k∨w.heap.size≤k) :
  FdQ w w' ar a2 a8 p0 pw0 p ⟨a',r',none,0,y.hs++[(q,m,d)],y.ls++[l],pd',cd'⟩:=by
 have hbp:∀k,bx k=y.pd→blk y.pd=some k:=fun k e=>by rw [← e];rfl
 have hsz:=h.fr.size
 have hp1:∀k,blk p=some k→k<w1.heap.size:=fun k hk=>(hR.row.ge k hk).2
 refine ⟨hG,?_,h.fr.trans hf (fun k hk e=>?_),h.np,fun k hk=>(by cases hk),h.h8,h.h2,fun x hx=>(List.mem_append.1 hx).elim (h.ob x) (fun hx=>by rw [List.mem_singleton.1 hx];exact hq)⟩
 ·subst hm
  refine ((h.cm.fr (FrS.of_ext (F:=fun _=>False) Ext.rfl') (X':=fun k=>blk (none:Option Addr)=some k) (fun q _ _ _=>⟨id,fun e=>by cases e⟩)).snoc hl (fun k _ e=>by cases e)).fr hf (fun q _ hs _=>⟨fun e=>?_,fun e=>by cases e⟩)
  rcases e with e|e|e
  ·exact IA hR.blk (by decide) (by rw [← e];exact hs)
  ·exact IA h.gv.box (by decide) (by rw [← e];exact hs)
  ·exact Hr h.gv.row (by decide) (hbp q e) hs
 ·rcases e with e|e|e
  ·exact .inl e
  ·have:=h.h8;omega
  ·have:=(h.gv.row.ge k (hbp k e)).1;omega
theorem Pj {w0 w w5 w6 w7 w8 w9:World} {ar B a2 a8 c cw c8:Nat} {p0 pw0 p pw p8:Option Addr} {I:List UInt8} {z:FdY} {a a':Nat} {r r5:RS} {x:ByteArray} (_hR5:Ba w0 w5 ar B p c I a' pw cw r5 0) (_hO5:FdQ w w5 ar a2 a8 p0 pw0 p z) (_hf:FrS (fun q=>q=ar) w5 w6) (hR:Ba w0 w6 ar B p c I a z.pw z.cw r 0) (hO:FdQ w w6 ar a2 a8 p0 pw0 p z) (hx:Ext w6 w7)
  (ha:App w7 w8 B 9 Ar z.pw p8 c8 (r.words++[x])) (hg:w8.grownBy w9 (some ar)) (hA:Blk w9.heap ar 192 [.slice p I.length c,.int .i64 (a:Int),.int .i64 (r.left:Int),.int .i64 r.size,.slice p8 (r.words++[x]).length c8,.int .i64 (r.held:Int),.int .i64 0]) :
  Ba w0 w9 ar B p c I a p8 c8 ⟨r.left,r.size,r.words++[x],r.held⟩ 0∧FdQ w w9 ar a2 a8 p0 pw0 p ⟨a,⟨r.left,r.size,r.words++[x],r.held⟩,p8,c8,z.hs,z.ls,z.pd,z.cd⟩:=by
 have hR7:=hR.xt hx
 have hnp:=ha.new
 unfold BK at hnp
 have hz7:=hx.size
 have hfr:FrS (fun k=>k=ar∨blk z.pw=some k) w6 w9:=((FrS.of_ext hx).trans (FrS.of_grown (F:=fun k=>k=ar∨blk z.pw=some k) ha.grown (fun k hk=>.inr hk)) (fun _ _ h=>h)).trans (FrS.of_grown (F:=fun k=>k=ar∨blk z.pw=some k) hg (fun k hk=>by injection hk with hk;exact .inl hk.symm)) (fun _ _ h=>h)
 have hw8:=hR7.row.kept ha.grown (fun y hy=>hR7.wds.apartR hR7.row (by decide) y hy)
 have hb8:=hR7.blk.grown ha.grown (hR7.wds.apartB hR7.blk (by decide))
 have hpw:∀k,blk z.pw=some k→B≤k:=fun k hk=>(hR.wds.ge k hk).1
 have h0:=hR.h0
 have hlt:=hR.lt
 have hpx:∀k,blk z.pd=some k→∃y,z.pd=some y∧y.block=k:=fun k hk=>by
  cases hp:z.pd with
  | none=>rw [hp] at hk;cases hk
  | some y=>rw [hp] at hk;injection hk with hk;exact ⟨y,rfl,hk⟩
 refine ⟨⟨hA,hw8.kept hg (fun y hy e=>by injection e with e;exact hw8.apart hy hb8 (by decide) e),ha.own.kept hg (fun y hy e=>by injection e with e;exact ha.own.apart hy hb8 (by decide) e),(hR7.ext.own ha.grown (fun k hk=>by have:=hpw k hk;omega)).own hg (fun k hk=>by injection hk with hk;omega),h0,hlt,Nat.le_trans ha.base hg.size,hR.la⟩,?_⟩
 refine ⟨⟨hfr.blk hO.gv.ptr (fun e=>e.elim (fun e=>BB hO.gv.ptr hR.blk (by decide) e) (fun e=>hR.wds.apartB hO.gv.ptr (by decide) e)),hfr.blk hO.gv.box (fun e=>e.elim (fun e=>BB hO.gv.box hR.blk (by decide) e) (fun e=>hR.wds.apartB hO.gv.box (by decide) e)),hO.gv.row.fr hfr (fun k hk e=>?_)⟩,?_,hO.fr.trans hfr (fun q hq e=>e.elim .inl (fun e=>(hO.npw q e).elim (fun e=>.inr (.inr e)) (fun e=>by omega))),hO.np,fun k hk=>?_,hO.h8,hO.h2,hO.ob⟩
 ·obtain ⟨y,hy,e2⟩:=hpx k hk
  subst e2
  exact e.elim (fun e=>hO.gv.row.apart hy hR.blk (by decide) e.symm) (fun e=>hR.wds.apartR hO.gv.row (by decide) y hy e)
 ·refine hO.cm.fr hfr (fun q hq hs hn=>⟨fun e=>e.elim (fun e=>IA hR.blk (by decide) (by rw [← e];exact hs)) hn,fun e=>?_⟩)
  rcases hnp with h|h
  ·exact hn (by rw [← h];exact e)
  ·have:=h q e;omega
 ·rcases hnp with h|h
  ·exact hO.npw k (by rw [← h];exact hk)
  ·have:=h k hk;have:=hO.fr.size;exact .inr (by omega)
theorem Pi {w0:World} {ar B:Nat} {p:Option Addr} {c:Nat} {inp:List UInt8} {pw:Option Addr} {cw:Nat} {r:RS} {q:Option Addr} {d:Nat} {ks:List Hdr} {parts:List (List UInt8)} {w:World} (hR:Ba w0 w ar B p c inp 0 pw cw r 0)
  (hS:Sl w.heap Eu q d ks) (hSn:∀x,q=some x→ks≠[]→¬(x.block=ar∨blk p=some x.block)) (hb:PartsAt w.heap (fun k=>k=ar∨blk p=some k) ks parts) (hN:inp.length+parts.flatten.length≤100000000) (hH:r.held≤100000000) (hT:Pow w0) (hE:CL w0) (hg0:Ng r) :
  Ctr Tryz.prog 56 [.pointer (some (adr (bx ar) 0)),.slice q ks.length d] w (Tj w0 w ar B p pw (BD r (inp++parts.flatten))):=by
 have hbk:=hR.blk
 have hlen:=hb.len
 have hsb:=hS.bound
 have hok:=hS.ok
 refine Ac Tryz.func56 Tryz.ntmps56 rfl rfl rfl ?_
 repeat' (refine R1 ?_)
 refine Q1 ?_;refine Q8 ?_;intro a2 w1 ha1 hA2 hx1 hs1
 replace hA2:Blk w1.heap a2 126 [.pointer (some (adr (bx ar) 0))]:=hA2
 replace hbk:=hbk.ext hx1
 repeat' (first|refine R1 ?_|(refine Q1 ?_;first|(refine Q3 (hu:=by (first|exact T.p126|exact T.p58)) ?_)|(refine Q2 (hu:=T.f192_6) ?_)|(refine Q6 (hu:=T.s145) ?_))|apply ZF|refine R2 ?_|fail)
 all_goals try (exfalso;omega)
 refine Zh (ι:=Nat × Option Addr × Nat) (fun y=>[(2,.pointer (some (adr (bx a2) 0))),(26,.slice q ks.length d),(27,.int .i64 (ks.length:Int)),(28,.int .i64 (y.1:Int))])
  (fun y w'=>y.1≤ks.length∧Ba w0 w' ar B y.2.1 y.2.2 (inp++(parts.take y.1).flatten) 0 pw cw r 0∧Blk w'.heap a2 126 [.pointer (some (adr (bx ar) 0))]∧FrS (fun k=>k=ar∨blk p=some k) w w'∧∀k,blk y.2.1=some k→blk p=some k∨w.heap.size≤k) (fun y=>ks.length - y.1) (0,p,c) ⟨rfl,rfl,rfl,rfl,trivial⟩
  ⟨Nat.zero_le _,by rw [List.take_zero,List.flatten_nil,List.append_nil];exact hR.xt Kz,hA2.ext Kz,FrS.of_ext Kz,fun k hk=>.inl hk⟩ ?_
 rintro ⟨i,p1,c1⟩ w2 ⟨hi,hR2,hA2,hF2,hnp2⟩
 simp only at hi hR2 hnp2
 refine Zn [(2,.pointer (some (adr (bx a2) 0))),(26,.slice q ks.length d),(27,.int .i64 (ks.length:Int)),(28,.int .i64 (i:Int))] ⟨rfl,rfl,rfl,rfl,trivial⟩ ?_
 by_cases hi0:i<ks.length
 ·obtain ⟨⟨q1,n1,d1⟩,hq1⟩:=Aj hi0
  obtain ⟨b,hgb⟩:=Aj (xs:=parts) (k:=i) (by omega)
  obtain ⟨e1,hb1,hn1⟩:=hb.get i _ b hq1 hgb
  simp only at e1 hb1 hn1
  subst e1
  have hb2:Sl w2.heap Ai q1 d1 b:=hb1.fr' hF2 hn1
  have hS2:=hS.fr' hF2 hSn
  have hts:=RH hgb
  have htl:=VL parts (i+1)
  rw [hts,List.length_append] at htl
  have hxd:Ext w2 w2.drew:=Ext.drew Ext.rfl'
  have nA2:=(hR2.row.ext hxd).apartB (hA2.ext hxd) (by decide)
  have nAr:=(hR2.row.ext hxd).apartB (hR2.blk.ext hxd) (by decide)
  have nW:=(hR2.row.ext hxd).apartR (hR2.wds.ext hxd) (by decide)
  have hbk2:=hR2.blk
  repeat' (first|refine R1 ?_|(refine Q1 ?_;first|(refine Q10 T.s145 hok (q:=i) (h1:=hi0) ?_)|(refine Q9 T.p40 (q:=i) (e:=Eu) (hs:=hS2) (hq:=hq1) ?_))|refine R2 ?_|(apply Za;exact rfl;all_goals (intro h;try (exfalso;omega)))|fail)
  all_goals try (exfalso;omega)
  refine Zl 1 [] (.node [5] (.alt 0 (.node [] (.alt 1 (.leaf [2,3,4,6,7,8,9]) .stop)) (.alt 1 (.node [2,3,4] (.alt 0 (.leaf [6,7,8,9]) (.alt 6 (.leaf [0,7,8,9]) .stop))) .stop))) mixed (by decide +kernel) ?_
  repeat' (first|refine R1 ?_|(refine Q1 ?_;first|(refine Q16 T.s40 (hR2.row.ext (Ext.drew Ext.rfl')) (hb2.ext (Ext.drew Ext.rfl')) (hB:=hR2.hB) (hlen:=by (simp only [List.length_append];omega)) (hmax:=by (simp only [List.length_append];omega)) ?_;intro p5 c5 w5 ha5;have hA25:=(hA2.ext hxd).grown ha5.grown nA2;have hbk5:=(hbk2.ext hxd).grown ha5.grown nAr)|(refine Q3 (hu:=by (first|exact T.p126|exact T.p40)) ?_)|(refine Q2 (hu:=T.f192_0) ?_))|(refine Zj ?_)|(refine Zp ?_)|(apply Zv)|refine R2 ?_|(exact Zq)|fail)
  all_goals
   rw [List.append_assoc,← hts] at ha5
   refine Q1 ?_;refine Q5 T.z40 hbk5 ?_;intro w6 hA6 hg6 hs6
   replace hA6:Blk w6.heap ar 192 [.slice p5 (inp++(parts.take i).flatten++b).length c5,.int .i64 ((0:Nat):Int),.int .i64 (r.left:Int),.int .i64 r.size,.slice pw r.words.length cw,.int .i64 (r.held:Int),.int .i64 0]:=hA6
   rw [List.append_assoc,← hts] at hA6
   have hR6:Ba w0 w6 ar B p5 c5 (inp++(parts.take (i+1)).flatten) 0 pw cw r 0 :=
    ⟨hA6,ha5.own.kept hg6 (fun x hx e=>by injection e with e;exact ha5.own.apart hx hbk5 (by decide) e),((hR2.wds.ext hxd).kept ha5.grown nW).kept hg6 (fun x hx e=>by injection e with e;exact ((hR2.wds.ext hxd).kept ha5.grown nW).apart hx hbk5 (by decide) e),((hR2.ext.trans hxd).own ha5.grown (fun k hk=>by have:=(hR2.row.ext hxd).ge k hk;have:=hR.h0;have:=hR.lt;omega)).own hg6 (fun k hk=>by injection hk with hk;have:=hR.h0;omega),hR.h0,hR.lt,Nat.le_trans ha5.base hg6.size,Nat.zero_le _⟩
   have hA26:=hA25.grown hg6 (fun e=>by injection e with e;exact BB hbk5 hA25 (by decide) e)
   repeat' (first|refine R1 ?_|refine R2 ?_|fail)
   have hnn:=ha5.new
   unfold BK at hnn
   have hz2:=hF2.size
   have hz6:=hg6.size
   have hF5:FrS (fun k=>k=ar∨blk p=some k) w w6:=((hF2.trans (FrS.of_ext hxd) (fun _ _ h=>h)).trans (FrS.of_grown (F:=fun k=>k=ar∨blk p1=some k) ha5.grown (fun k hk=>.inr hk)) (fun k hk e=>e.elim .inl (fun e=>(hnp2 k e).elim .inr (fun e=>by omega)))).trans (FrS.of_grown (F:=fun k=>k=ar∨blk p1=some k) hg6 (fun k hk=>by injection hk with hk;exact .inl hk.symm)) (fun k hk e=>e.elim .inl (fun e=>(hnp2 k e).elim .inr (fun e=>by omega)))
   exact Zc (i+1,p5,c5) ⟨rfl,rfl,rfl,rfl,trivial⟩ ⟨hi0,hR6,hA26,hF5,fun k hk=>hnn.elim (fun e=>hnp2 k (by rw [← e];exact hk)) (fun e=>.inr (Nat.le_trans hz2 (e k hk)))⟩ (by simp only;omega)
 ·obtain ⟨bs,hbs⟩:∃bs,parts.flatten=bs:=⟨_,rfl⟩
  rw [List.take_of_length_le (by omega),hbs] at hR2
  rw [hbs] at hN ⊢
  repeat' (first|refine R1 ?_|refine R2 ?_|(apply Za;exact rfl;all_goals (intro h;try (exfalso;omega)))|fail)
  all_goals try (exfalso;omega)
  refine Q1 ?_;refine Q7 T.zero146 ?_;intro a8 w3 ha8 hA8 hx3 hs3
  replace hA8:Blk w3.heap a8 146 [.slice none 0 0]:=hA8
  repeat' (first|refine R1 ?_|apply ZK|refine R2 ?_|fail)
  have z2:=hF2.size
  refine Zh (ι:=FdY) (fun y=>[(2,.pointer (some (adr (bx a2) 0))),(8,.pointer (some (adr (bx a8) 0))),(9,.func (.func 80) #[] #[.pointer (some (adr (bx a8) 0)),.pointer (some (adr (bx a2) 0))])])
   (fun y w'=>FdJ w0 w w' ar B a2 a8 p pw p1 c1 (inp++bs) r y) (fun y=>(inp++bs).length - y.a) ⟨0,r,pw,cw,[],[],none,0⟩ ⟨rfl,rfl,rfl,trivial⟩ ?_ ?_
  ·exact ⟨hR2.xt hx3,⟨⟨hA2.ext hx3,hA8,Own.nil _ _ _ _⟩,Bj.nil,(hF2.trans (FrS.of_ext hx3) (fun _ _ h=>h)).mono (fun k e=>e.elim .inl (fun e=>.inr (.inl e))),hnp2,fun k hk=>.inl hk,by omega,by omega,fun x hx=>by cases hx⟩,by simp,by simp only [List.length_append];omega,hg0,Nat.zero_le _⟩
  rintro y w4 hI
  refine Zn [(2,.pointer (some (adr (bx a2) 0))),(8,.pointer (some (adr (bx a8) 0))),(9,.func (.func 80) #[] #[.pointer (some (adr (bx a8) 0)),.pointer (some (adr (bx a2) 0))])] ⟨rfl,rfl,rfl,trivial⟩ ?_
  repeat' (first|refine R1 ?_|refine R2 ?_|fail)
  refine Zh (ι:=FdY) (fun y=>[(2,.pointer (some (adr (bx a2) 0))),(8,.pointer (some (adr (bx a8) 0))),(9,.func (.func 80) #[] #[.pointer (some (adr (bx a8) 0)),.pointer (some (adr (bx a2) 0))])])
   (fun z w'=>FdJ w0 w w' ar B a2 a8 p pw p1 c1 (inp++bs) r z∧y.a≤z.a) (fun z=>(inp++bs).length - z.a) y ⟨rfl,rfl,rfl,trivial⟩ ⟨hI,Nat.le_refl _⟩ ?_
  rintro z w5 ⟨hI5,hyz⟩
  refine Zn [(2,.pointer (some (adr (bx a2) 0))),(8,.pointer (some (adr (bx a8) 0))),(9,.func (.func 80) #[] #[.pointer (some (adr (bx a8) 0)),.pointer (some (adr (bx a2) 0))])] ⟨rfl,rfl,rfl,trivial⟩ ?_
  have hbk5:=hI5.rd.blk
  have hA25:=hI5.o.gv.ptr
  have hrun:=hI5.run
  have hdl:((inp++bs).drop z.a).length=(inp++bs).length - z.a:=List.length_drop
  have hIl:(inp++bs).length=inp.length+bs.length:=List.length_append
  have hza:=hI5.rd.la
  have hcnt:=hI5.cnt
  have hhl:=hI5.o.cm.len
  by_cases hl0:z.r.left=0
  ·have hr0:=hI5.good.zero hl0
   have hln:=LP hI5.rd (by omega)
   cases hL:Dn ((inp++bs).drop z.a) with
   | more =>
    rw [hL] at hln
    repeat' (first|(refine Q1 ?_;first|(refine Q3 (hu:=by (first|exact T.p126|exact T.p3)) ?_)|(refine Q2 (hu:=T.f192_2) ?_))|refine R1 ?_|refine R2 ?_|(apply Za;exact rfl;all_goals (intro h;try (exfalso;omega)))|fail)
    all_goals try (exfalso;omega)
    refine Q1 ?_;refine Q4 (f:=82) (hc:=hln) ?_;intro v w6 hv;refine ⟨.inl rfl,?_⟩
    obtain ⟨hf6,rfl,hR6⟩:=hv
    have hO6:=hI5.o.own hI5.rd.blk hf6
    have hstep:Bf z.r ((inp++bs).drop z.a)=.stop:=by
     unfold Bf
     rw [if_pos hl0,hL]
    rw [GG hstep,List.append_nil] at hrun
    have hti:=QV hR6 (show (inp++bs).length≤1000000000 by rw [List.length_append];omega)
    have hA2e:=(hO6).gv.ptr
    repeat' (first|refine R1 ?_|(refine Q1 ?_;(refine Q3 (hu:=T.p126) ?_))|refine R2 ?_|fail)
    refine Q1 ?_;refine Q4 (f:=86) (hc:=hti) ?_;rintro vT wT ⟨hfT,hRT⟩;refine ⟨.inl rfl,?_⟩
    obtain ⟨hGT,hFA⟩:=JS hR6 hO6 hfT hRT hrun
    have hbkT:=hRT.blk
    have hA2T:=hGT.ptr
    have hA8T:=hGT.box
    repeat' (first|refine R1 ?_|(refine Q1 ?_;first|(refine Q3 (hu:=by (first|exact T.p126|exact T.p58|exact T.p146)) ?_)|(refine Q2 (hu:=T.f192_6) ?_))|apply Zo|refine R2 ?_|refine Zf 1 [] [0,1,2,3,4,5,6] mixed (by decide +kernel) ?_|fail)
    refine Kr Tryz.results56 ?_
    exact hFA _ Kz
   | err e =>
    rw [hL] at hln
    repeat' (first|(refine Q1 ?_;first|(refine Q3 (hu:=by (first|exact T.p126|exact T.p3)) ?_)|(refine Q2 (hu:=T.f192_2) ?_))|refine R1 ?_|refine R2 ?_|(apply Za;exact rfl;all_goals (intro h;try (exfalso;omega)))|fail)
    all_goals try (exfalso;omega)
    refine Q1 ?_;refine Q4 (f:=82) (hc:=hln) ?_;intro v w6 hv;refine ⟨.inl rfl,?_⟩
    obtain ⟨hf6,rfl,hR6⟩:=hv
    have hO6:=hI5.o.own hI5.rd.blk hf6
    have hstep:Bf z.r ((inp++bs).drop z.a)=.fault e:=by
     unfold Bf
     rw [if_pos hl0,hL]
    have he:=NP hL
    rw [DC hstep,List.append_nil] at hrun
    have hti:=GL hR6 (by omega)
    have hA2e:=(hO6).gv.ptr
    repeat' (first|refine R1 ?_|(refine Q1 ?_;(refine Q3 (hu:=T.p126) ?_))|refine R2 ?_|fail)
    refine Q1 ?_;refine Q4 (f:=86) (hc:=hti) ?_;rintro vT wT ⟨hfT,hRT⟩;refine ⟨.inl rfl,?_⟩
    obtain ⟨hGT,hFA⟩:=EA hR6 hO6 hfT hRT (by omega) ⟨congrArg Res.out hrun,congrArg Res.err hrun⟩
    have hbkT:=hRT.blk
    have hA2T:=hGT.ptr
    have hA8T:=hGT.box
    repeat' (first|refine R1 ?_|(refine Q1 ?_;first|(refine Q3 (hu:=by (first|exact T.p126|exact T.p58|exact T.p146)) ?_)|(refine Q2 (hu:=T.f192_6) ?_))|apply Zo|refine R2 ?_|refine Zf 1 [] [0,1,2,3,4,5,6] mixed (by decide +kernel) ?_|fail)
    refine Kr Tryz.results56 ?_
    exact hFA _ Kz
   | ok s k =>
    rw [hL] at hln
    repeat' (first|(refine Q1 ?_;first|(refine Q3 (hu:=by (first|exact T.p126|exact T.p3)) ?_)|(refine Q2 (hu:=T.f192_2) ?_))|refine R1 ?_|refine R2 ?_|(apply Za;exact rfl;all_goals (intro h;try (exfalso;omega)))|fail)
    all_goals try (exfalso;omega)
    refine Q1 ?_;refine Q4 (f:=82) (hc:=hln) ?_;intro v w6 hv;refine ⟨.inl rfl,?_⟩
    obtain ⟨hf6,rfl,hR6⟩:=hv
    have hlk:=DT hL
    obtain ⟨hk1,hk2,hk3,hk4,hk5,hk6⟩:=Jv hL
    have hs1:s.length≤1026:=by rw [hk5,List.length_take];omega
    have hpre:=fun w'=>NL (w:=w') (s:=s) (by omega)
    repeat' (first|refine R1 ?_|(refine Q1 ?_;(refine Q4 (f:=83) (hc:=hpre _) ?_;rintro _ w7 ⟨rfl,hx7⟩;refine Kc ?_))|refine R2 ?_|(apply Za;exact rfl;all_goals (intro h;try (exfalso;omega)))|fail)
    all_goals try (exfalso;omega)
    ·have hx7':FrS (fun q=>q=ar) w5 w7:=hf6.trans (FrS.of_ext (F:=fun q=>q=ar) hx7) (fun _ _ h=>h)
     have h42:s.head?=some 42:=by simpa using ‹_›
     have hO7:=hI5.o.own hI5.rd.blk hx7'
     have hR7:=hR6.xt hx7
     have hA27:=hO7.gv.ptr
     have hnum:=IB (s:=s) (m:=42) (mi:=42) (lo:=1) (hi:=128) hR7 rfl (by omega) hT hE
     cases hNm:Dy s 42 1 128 with
     | error e =>
      rw [hNm] at hnum
      repeat' (refine Q1 ?_;first|refine Q19 ?_|(refine Q3 (hu:=T.p126) ?_))
      refine Q1 ?_;refine Q4 (f:=84) (hc:=hnum) ?_;intro v w8 hv;refine ⟨.inl rfl,?_⟩
      obtain ⟨hf8,rfl,hR8⟩:=hv
      have hO8:=hO7.own hR7.blk hf8
      have hstep:Bf z.r ((inp++bs).drop z.a)=.fault e:=by
       unfold Bf
       rw [if_pos hl0,hL]
       simp only
       rw [if_pos h42,hNm]
      have he:=QN hNm
      rw [DC hstep,List.append_nil] at hrun
      have hti:=GL hR8 (by omega)
      have hA2e:=(hO8).gv.ptr
      repeat' (first|refine R1 ?_|(refine Q1 ?_;(refine Q3 (hu:=T.p126) ?_))|refine R2 ?_|fail)
      refine Q1 ?_;refine Q4 (f:=86) (hc:=hti) ?_;rintro vT wT ⟨hfT,hRT⟩;refine ⟨.inl rfl,?_⟩
      obtain ⟨hGT,hFA⟩:=EA hR8 hO8 hfT hRT (by omega) ⟨congrArg Res.out hrun,congrArg Res.err hrun⟩
      have hbkT:=hRT.blk
      have hA2T:=hGT.ptr
      have hA8T:=hGT.box
      repeat' (first|refine R1 ?_|(refine Q1 ?_;first|(refine Q3 (hu:=by (first|exact T.p126|exact T.p58|exact T.p146)) ?_)|(refine Q2 (hu:=T.f192_6) ?_))|apply Zo|refine R2 ?_|refine Zf 1 [] [0,1,2,3,4,5,6] mixed (by decide +kernel) ?_|fail)
      refine Kr Tryz.results56 ?_
      exact hFA _ Kz
     | ok n =>
      rw [hNm] at hnum
      repeat' (refine Q1 ?_;first|refine Q19 ?_|(refine Q3 (hu:=T.p126) ?_))
      refine Q1 ?_;refine Q4 (f:=84) (hc:=hnum) ?_;intro v w8 hv;refine ⟨.inl rfl,?_⟩
      obtain ⟨hf8,rfl,hR8⟩:=hv
      have hO8:=hO7.own hR7.blk hf8
      have hA28:=hO8.gv.ptr
      have hbk8:=hR8.blk
      have hsz8:=BR s
      have nA8:=BB hA28 hbk8 (by decide)
      repeat' (first|refine R1 ?_|refine R2 ?_|fail)
      all_goals try (exfalso;omega)
      refine Zf 3 [ar] [0,1,2,3,4,5,6,7,8,9,10,11] mixed (by decide +kernel) ?_
      repeat' (refine Q1 ?_;first|refine Q19 ?_|refine Q21 ?_|refine Q31 T.p126 ?_|(refine Q2 (hu:=T.f192_2) ?_)|refine Q52 ?_|refine Q17 T.str9 ?_)
      refine Q1 ?_;refine Q5 T.z3 hbk8 ?_;intro w9 hA9 hg9 hs9
      repeat' (refine Q1 ?_;first|refine Q21 ?_|(refine Q2 (hu:=T.f192_5) ?_))
      refine Q1 ?_;refine Q5 T.z3 hA9 ?_;intro w10 hA10 hg10 hs10
      repeat' (first|refine R1 ?_|refine R2 ?_|fail)
      obtain ⟨hn1,hn2⟩:=Kt hNm
      have hd8:Ext w8 w8.drew:=Ext.drew Ext.rfl'
      have hg:=BP hg9 hg10
      replace hA10:Blk w10.heap ar 192 [.slice p1 (inp++bs).length c1,.int .i64 ((z.a+k:Nat):Int),.int .i64 n,.int .i64 z.r.size,.slice z.pw z.r.words.length z.cw,.int .i64 (((Af s).size:Int)+2),.int .i64 0]:=hA10
      have e1:n=((n.toNat:Nat):Int):=by omega
      have e2:((Af s).size:Int)+2=((k:Nat):Int):=by omega
      rw [e2,hr0] at hA10
      rw [e1] at hA10
      have hR10:Ba w0 w10 ar B p1 c1 (inp++bs) (z.a+k) z.pw z.cw ⟨n.toNat,-1,[],k⟩ 0:=(hR8.xt hd8).set hg hA10 (by rw [hr0];rfl) (by omega)
      have hO10:=hO8.own hR8.blk ((FrS.of_ext (F:=fun q=>q=ar) hd8).trans (FrS.of_grown (F:=fun q=>q=ar) hg (fun k hk=>by injection hk with hk;exact hk.symm)) (fun _ _ h=>h))
      have hstep:Bf z.r ((inp++bs).drop z.a)=.go ⟨n.toNat,-1,[],k⟩ k []:=by
       unfold Bf
       rw [if_pos hl0,hL]
       simp only
       rw [if_pos h42,hNm]
      have hgd:=Mg hI5.good hstep
      rw [run_go hstep,List.nil_append,List.drop_drop] at hrun
      refine Zc (⟨z.a+k,⟨n.toNat,-1,[],k⟩,z.pw,z.cw,z.hs,z.ls,z.pd,z.cd⟩:FdY) ⟨rfl,rfl,rfl,trivial⟩ ⟨hR10,⟨hO10.gv,hO10.cm,hO10.fr,hO10.np,hO10.npw,hO10.h8,hO10.h2,hO10.ob⟩,hrun,by simp only;omega,hgd.1,by simp only;omega⟩ (by simp only;omega)
    ·have hx7':FrS (fun q=>q=ar) w5 w7:=hf6.trans (FrS.of_ext (F:=fun q=>q=ar) hx7) (fun _ _ h=>h)
     have h42:¬s.head?=some 42:=by simpa using ‹¬_›
     have hspl:=Qi (w:=w7) (s:=s) (by omega)
     refine Q1 ?_;refine Q4 (f:=85) (hc:=hspl) ?_;rintro v w8 ⟨ps,cs,rfl,hO8s,hx8⟩;refine ⟨.inl rfl,?_⟩
     have hx8':FrS (fun q=>q=ar) w5 w8:=hx7'.trans (FrS.of_ext (F:=fun q=>q=ar) hx8) (fun _ _ h=>h)
     have hO7:=hI5.o.own hI5.rd.blk hx7'
     have hO8:=hI5.o.own hI5.rd.blk hx8'
     have hR8:=(hR6.xt hx7).xt hx8
     have hA28:=hO8.gv.ptr
     have hbk8:=hR8.blk
     repeat' (first|refine R1 ?_|(refine Q1 ?_;first|(refine Q3 (hu:=T.p126) ?_)|(refine Q2 (hu:=T.f192_6) ?_)|(refine Q6 (hu:=T.s61) ?_))|refine R2 ?_|(apply Za;exact rfl;all_goals (intro h;try (exfalso;omega)))|fail)
     ·refine Q1 ?_;refine Q5 T.z58 hbk8 ?_;intro w9 hA9 hg9 hs9
      replace hA9:Blk w9.heap ar 192 [.slice p1 (inp++bs).length c1,.int .i64 ((z.a+k:Nat):Int),.int .i64 (z.r.left:Int),.int .i64 z.r.size,.slice z.pw z.r.words.length z.cw,.int .i64 (z.r.held:Int),.int .i64 12]:=hA9
      have hR9:=hR8.set (r':=z.r) (ft':=12) hg9 hA9 rfl (by omega)
      have hO9:=hO8.own hR8.blk (FrS.of_grown (F:=fun q=>q=ar) hg9 (fun k hk=>by injection hk with hk;exact hk.symm))
      have hstep:Bf z.r ((inp++bs).drop z.a)=.fault 12:=by
       unfold Bf
       rw [if_pos hl0,hL]
       simp only
       rw [if_neg h42,if_pos (by omega)]
      rw [DC hstep,List.append_nil] at hrun
      have hA29:=hO9.gv.ptr
      have hti:=GL hR9 (by decide)
      have hA2e:=(hO9).gv.ptr
      repeat' (first|(refine Q1 ?_;(refine Q3 (hu:=T.p126) ?_))|refine R1 ?_|refine R2 ?_|fail)
      refine Q1 ?_;refine Q4 (f:=86) (hc:=hti) ?_;rintro vT wT ⟨hfT,hRT⟩;refine ⟨.inl rfl,?_⟩
      obtain ⟨hGT,hFA⟩:=EA hR9 hO9 hfT hRT (by decide) ⟨congrArg Res.out hrun,congrArg Res.err hrun⟩
      have hbkT:=hRT.blk
      have hA2T:=hGT.ptr
      have hA8T:=hGT.box
      repeat' (first|refine R1 ?_|(refine Q1 ?_;first|(refine Q3 (hu:=by (first|exact T.p126|exact T.p58|exact T.p146)) ?_)|(refine Q2 (hu:=T.f192_6) ?_))|apply Zo|refine R2 ?_|refine Zf 1 [] [0,1,2,3,4,5,6] mixed (by decide +kernel) ?_|fail)
      refine Kr Tryz.results56 ?_
      exact hFA _ Kz
     ·have hgv:=LD (q:=ps) (m:=(Dt [] s).length) (d:=cs) hR8 hO8.gv (by have:=hR.ext.size;have:=hO8.h8;omega) hR.ext.size hO8.fr.size (by omega)
      refine Q1 ?_;refine Q22 (hc:=hgv) ?_;rintro v9 w9 ⟨pd',cd',hR9,hG9,hF9,hnd9⟩;refine Kc ?_
      have hc0:Dt [] s≠[]:=fun e=>by have h0:=congrArg List.length e;rw [List.length_nil] at h0;omega
      have hstep:Bf z.r ((inp++bs).drop z.a)=.go rs0 k [(Dt [] s).map Af]:=by
       unfold Bf
       rw [if_pos hl0,hL]
       simp only
       rw [if_neg h42,if_neg (by omega),if_neg hc0]
      have hgd:=Mg hI5.good hstep
      rw [run_go hstep,List.drop_drop] at hrun
      have hrs:{ z.r with words:=[],held:=0 }=rs0:=by rw [hr0];rfl
      rw [hrs] at hR9
      have hO9:=hO8.give (a':=z.a+k) (r':=rs0) (l:=(Dt [] s).map Af) hR8 hG9 hF9 hnd9 (by rw [List.length_map]) hO8s (fun k hk=>.inr (by have:=(hO8s.ge k hk).1;have:=hO7.fr.size;omega))
      repeat' (first|refine R1 ?_|refine R2 ?_|fail)
      refine Zc (⟨z.a+k,rs0,none,0,z.hs++[(ps,(Dt [] s).length,cs)],z.ls++[(Dt [] s).map Af],pd',cd'⟩:FdY) ⟨rfl,rfl,rfl,trivial⟩ ⟨hR9,hO9,by rw [hrun];simp,by simp only [rs0];omega,LF,by simp only [List.length_append,List.length_singleton];omega⟩ (by simp only;omega)
     ·have hc0:Dt [] s=[]:=List.eq_nil_of_length_eq_zero (by omega)
      have hstep:Bf z.r ((inp++bs).drop z.a)=.go rs0 k []:=by
       unfold Bf
       rw [if_pos hl0,hL]
       simp only
       rw [if_neg h42,if_neg (by rw [hc0];decide),if_pos hc0]
      rw [run_go hstep,List.nil_append,List.drop_drop] at hrun
      rw [hr0] at hR8
      refine Zc (⟨z.a+k,rs0,z.pw,z.cw,z.hs,z.ls,z.pd,z.cd⟩:FdY) ⟨rfl,rfl,rfl,trivial⟩ ⟨hR8,⟨hO8.gv,hO8.cm,hO8.fr,hO8.np,hO8.npw,hO8.h8,hO8.h2,hO8.ob⟩,hrun,by simp only [rs0];omega,LF,by simp only;omega⟩ (by simp only;omega)
  ·have hwd:=Ti hI5.rd (by omega) hI5.held hI5.good.size.1 hI5.good.size.2 hT hE
   have hwr:=Vi (cs:=(inp++bs).drop z.a) (r:=z.r) (by omega)
   have hwh:=Tg (cs:=(inp++bs).drop z.a) (r:=z.r)
   cases hW:FN z.r ((inp++bs).drop z.a) with
   | more r' k =>
    rw [hW] at hwd hwr hwh
    repeat' (first|(refine Q1 ?_;first|(refine Q3 (hu:=by (first|exact T.p126|exact T.p3)) ?_)|(refine Q2 (hu:=T.f192_2) ?_))|refine R1 ?_|refine R2 ?_|(apply Za;exact rfl;all_goals (intro h;try (exfalso;omega)))|fail)
    all_goals try (exfalso;omega)
    refine Q1 ?_;refine Q4 (f:=81) (hc:=hwd) ?_;intro v w6 hv;refine ⟨.inl rfl,?_⟩
    obtain ⟨hf6,rfl,hR6⟩:=hv
    have hO6:=hI5.o.own hI5.rd.blk hf6
    obtain ⟨hk,hrl,hrw,hrr⟩:=hwr
    rw [hrr,List.append_nil,List.drop_drop] at hrun
    have hO6':FdQ w w6 ar a2 a8 p pw p1 ⟨z.a+k,r',z.pw,z.cw,z.hs,z.ls,z.pd,z.cd⟩:=⟨hO6.gv,hO6.cm,hO6.fr,hO6.np,hO6.npw,hO6.h8,hO6.h2,hO6.ob⟩
    have hti:=QV hR6 (show (inp++bs).length≤1000000000 by rw [List.length_append];omega)
    have hA2e:=(hO6').gv.ptr
    repeat' (first|refine R1 ?_|(refine Q1 ?_;(refine Q3 (hu:=T.p126) ?_))|refine R2 ?_|fail)
    refine Q1 ?_;refine Q4 (f:=86) (hc:=hti) ?_;rintro vT wT ⟨hfT,hRT⟩;refine ⟨.inl rfl,?_⟩
    obtain ⟨hGT,hFA⟩:=JS hR6 hO6' hfT hRT hrun
    have hbkT:=hRT.blk
    have hA2T:=hGT.ptr
    have hA8T:=hGT.box
    repeat' (first|refine R1 ?_|(refine Q1 ?_;first|(refine Q3 (hu:=by (first|exact T.p126|exact T.p58|exact T.p146)) ?_)|(refine Q2 (hu:=T.f192_6) ?_))|apply Zo|refine R2 ?_|refine Zf 1 [] [0,1,2,3,4,5,6] mixed (by decide +kernel) ?_|fail)
    refine Kr Tryz.results56 ?_
    exact hFA _ Kz
   | err e =>
    rw [hW] at hwd hwr
    repeat' (first|(refine Q1 ?_;first|(refine Q3 (hu:=by (first|exact T.p126|exact T.p3)) ?_)|(refine Q2 (hu:=T.f192_2) ?_))|refine R1 ?_|refine R2 ?_|(apply Za;exact rfl;all_goals (intro h;try (exfalso;omega)))|fail)
    all_goals try (exfalso;omega)
    refine Q1 ?_;refine Q4 (f:=81) (hc:=hwd) ?_;intro v w6 hv;refine ⟨.inl rfl,?_⟩
    obtain ⟨hf6,rfl,a',r',hR6⟩:=hv
    have hO6:=hI5.o.own hI5.rd.blk hf6
    have he:=Vh hW
    have hX:(BD r (inp++bs)).out=z.ls∧(BD r (inp++bs)).err=e:=by
     rw [hrun]
     exact ⟨by simp only;rw [hwr.1,List.append_nil],hwr.2⟩
    have hti:=GL hR6 (by omega)
    have hA2e:=(hO6).gv.ptr
    repeat' (first|refine R1 ?_|(refine Q1 ?_;(refine Q3 (hu:=T.p126) ?_))|refine R2 ?_|fail)
    refine Q1 ?_;refine Q4 (f:=86) (hc:=hti) ?_;rintro vT wT ⟨hfT,hRT⟩;refine ⟨.inl rfl,?_⟩
    obtain ⟨hGT,hFA⟩:=EA hR6 hO6 hfT hRT (by omega) hX
    have hbkT:=hRT.blk
    have hA2T:=hGT.ptr
    have hA8T:=hGT.box
    repeat' (first|refine R1 ?_|(refine Q1 ?_;first|(refine Q3 (hu:=by (first|exact T.p126|exact T.p58|exact T.p146)) ?_)|(refine Q2 (hu:=T.f192_6) ?_))|apply Zo|refine R2 ?_|refine Zf 1 [] [0,1,2,3,4,5,6] mixed (by decide +kernel) ?_|fail)
    refine Kr Tryz.results56 ?_
    exact hFA _ Kz
   | ok s hh k =>
    rw [hW] at hwd hwr hwh
    repeat' (first|(refine Q1 ?_;first|(refine Q3 (hu:=by (first|exact T.p126|exact T.p3)) ?_)|(refine Q2 (hu:=T.f192_2) ?_))|refine R1 ?_|refine R2 ?_|(apply Za;exact rfl;all_goals (intro h;try (exfalso;omega)))|fail)
    all_goals try (exfalso;omega)
    refine Q1 ?_;refine Q4 (f:=81) (hc:=hwd) ?_;intro v w6 hv;refine ⟨.inl rfl,?_⟩
    obtain ⟨hf6,rfl,hR6⟩:=hv
    have hO6:=hI5.o.own hI5.rd.blk hf6
    obtain ⟨hk,hk0,hrr⟩:=hwr
    have hA26:=hO6.gv.ptr
    have hbk6:=hR6.blk
    simp only at hbk6 hwh
    have hO6w:=hR6.wds
    simp only at hO6w
    have hwl:=hI5.good.words
    repeat' (first|(refine Xm (id:=13) [(2,.pointer (some (adr (bx a2) 0))),(8,.pointer (some (adr (bx a8) 0))),(9,.func (.func 80) #[] #[.pointer (some (adr (bx a8) 0)),.pointer (some (adr (bx a2) 0))])] (fun w'=>∃p8 c8,Ba w0 w' ar B p1 c1 (inp++bs) (z.a+k) p8 c8 ⟨z.r.left,-1,z.r.words++[Af s],hh⟩ 0∧FdQ w w' ar a2 a8 p pw p1 ⟨z.a+k,⟨z.r.left,-1,z.r.words++[Af s],hh⟩,p8,c8,z.hs,z.ls,z.pd,z.cd⟩) ?_ ?_)|refine R1 ?_|refine R2 ?_|fail)
    ·refine Zl 1 [] (.node [5] (.alt 0 (.node [] (.alt 1 (.leaf [2,3,4,6,7,8,9,10]) (.alt 6 (.node [] (.alt 1 (.leaf [2,3,4,7,8,9,10]) .stop)) .stop))) (.alt 1 (.node [2,3,4] (.alt 0 (.leaf [6,7,8,9,10]) (.alt 6 (.node [] (.alt 0 (.leaf [7,8,9,10]) (.alt 7 (.leaf [0,8,9,10]) .stop))) .stop))) (.alt 6 (.node [] (.alt 0 (.node [] (.alt 1 (.leaf [2,3,4,7,8,9,10]) .stop)) (.alt 1 (.node [2,3,4] (.alt 0 (.leaf [7,8,9,10]) (.alt 7 (.leaf [0,8,9,10]) .stop))) .stop))) .stop)))) mixed (by decide +kernel) ?_
     repeat' (first|refine R1 ?_|(refine Q1 ?_;first|(refine Q3 (hu:=by (first|exact T.p126|exact T.p61)) ?_)|(refine Q2 (hu:=T.f192_4) ?_))|(refine Zj ?_)|(refine Zp ?_)|(apply Zv)|refine R2 ?_|(exact Zq)|fail)
     all_goals
      refine Q1 ?_
      refine Q12 Ar (Af s) T.s61 ?_
      intro p7 w7 hp7 hs7 _ hx7 hz7
      have hx67:Ext w6 w7:=Kz
      have hA27:=hA26.ext hx67
      have hbk7:=hbk6.ext hx67
      have hB7:=Nat.le_trans hR6.hB hx67.size
      have nA2:=(hO6w.ext hx67).apartB hA27 (by decide)
      have nAr:=(hO6w.ext hx67).apartB hbk7 (by decide)
      repeat' (first|(refine Q1 ?_;first|(refine Q16 T.s61 (hO6w.ext hx67) hs7 (hB:=hB7) ?_;intro p8 c8 w8 ha8;have hA28:=hA27.grown ha8.grown nA2;have hbk8:=hbk7.grown ha8.grown nAr)|(refine Q3 (hu:=by (first|exact T.p126|exact T.p61)) ?_)|(refine Q2 (hu:=T.f192_4) ?_))|refine R1 ?_|(refine Zj ?_)|(refine Zp ?_)|(apply Zv)|refine R2 ?_|(exact Zq)|fail)
     all_goals
      refine Q1 ?_;refine Q5 T.z61 hbk8 ?_;intro w9 hA9 hg9 hs9
      replace hA9:Blk w9.heap ar 192 [.slice p1 (inp++bs).length c1,.int .i64 ((z.a+k:Nat):Int),.int .i64 (z.r.left:Int),.int .i64 (-1),.slice p8 (z.r.words++[Af s]).length c8,.int .i64 (hh:Int),.int .i64 0]:=hA9
      have hRO:=Pj hI5.rd hI5.o hf6 hR6 hO6 hx67 ha8 hg9 hA9
      repeat' (first|apply Zu|(refine Zbf ⟨rfl,rfl,rfl,trivial⟩ ⟨p8,c8,hRO⟩))
    rintro w9 ⟨p8,c8,hR9,hO9⟩
    have hA29:=hO9.gv.ptr
    have hbk9:=hR9.blk
    simp only at hbk9
    repeat' (first|(refine Q1 ?_;first|(refine Q3 (hu:=by (first|exact T.p126|exact T.p3)) ?_)|(refine Q2 (hu:=T.f192_2) ?_))|refine R1 ?_|refine R2 ?_|fail)
    refine Q1 ?_;refine Q5 T.z3 hbk9 ?_;intro w10 hA10 hg10 hs10
    replace hA10:Blk w10.heap ar 192 [.slice p1 (inp++bs).length c1,.int .i64 ((z.a+k:Nat):Int),.int .i64 ((z.r.left:Int) - 1),.int .i64 (-1),.slice p8 (z.r.words++[Af s]).length c8,.int .i64 (hh:Int),.int .i64 0]:=hA10
    rw [show (z.r.left:Int) - 1=((z.r.left - 1:Nat):Int) by omega] at hA10
    have hR10:Ba w0 w10 ar B p1 c1 (inp++bs) (z.a+k) p8 c8 ⟨z.r.left - 1,-1,z.r.words++[Af s],hh⟩ 0:=hR9.set hg10 hA10 rfl (by omega)
    have hO10:=hO9.own hR9.blk (FrS.of_grown (F:=fun q=>q=ar) hg10 (fun k hk=>by injection hk with hk;exact hk.symm))
    have hA210:=hO10.gv.ptr
    clear hbk9
    by_cases hl1:z.r.left=1
    ·rw [if_pos hl1] at hrr
     have hl1':((z.r.left - 1:Nat):Int)=0:=by omega
     repeat' (first|refine R1 ?_|(refine Q1 ?_;first|(refine Q3 (hu:=by (first|exact T.p126|exact T.p3|exact T.p61)) ?_)|(refine Q2 (hu:=by (first|exact T.f192_2|exact T.f192_4)) ?_))|refine R2 ?_|(apply Za;exact rfl;all_goals (intro h;try (exfalso;omega)))|fail)
     all_goals try (exfalso;omega)
     have hgv:=LD (q:=p8) (m:=(z.r.words++[Af s]).length) (d:=c8) hR10 hO10.gv (by have:=hR.ext.size;have:=hO10.h8;omega) hR.ext.size hO10.fr.size (by simp only;omega)
     refine Q1 ?_;refine Q22 (hc:=hgv) ?_;rintro v11 w11 ⟨pd',cd',hR11,hG11,hF11,hnd11⟩;refine Kc ?_
     have hrs:(⟨z.r.left - 1,-1,[],0⟩:RS)=rs0:=by rw [hl1];rfl
     simp only at hR11 hG11 hF11 hnd11
     rw [hrs] at hR11
     have hO11:=hO10.give (a':=z.a+k) (r':=rs0) (l:=z.r.words++[Af s]) hR10 hG11 hF11 hnd11 rfl hR10.wds hO10.npw
     rw [hrr,List.drop_drop] at hrun
     repeat' (first|refine R1 ?_|refine R2 ?_|fail)
     refine Zc (⟨z.a+k,rs0,none,0,z.hs++[(p8,(z.r.words++[Af s]).length,c8)],z.ls++[z.r.words++[Af s]],pd',cd'⟩:FdY) ⟨rfl,rfl,rfl,trivial⟩ ⟨hR11,hO11,by rw [hrun];simp,by simp only [rs0];omega,LF,by simp only [List.length_append,List.length_singleton];omega⟩ (by simp only;omega)
    ·rw [if_neg hl1,List.drop_drop] at hrr
     rw [hrr] at hrun
     have hl1':¬((z.r.left - 1:Nat):Int)=0:=by omega
     repeat' (first|(refine Q1 ?_;first|(refine Q3 (hu:=by (first|exact T.p126|exact T.p3)) ?_)|(refine Q2 (hu:=T.f192_2) ?_))|refine R1 ?_|refine R2 ?_|(apply Za;exact rfl;all_goals (intro h;try (exfalso;omega)))|fail)
     all_goals try (exfalso;omega)
     have hheld:=hI5.held
     refine Zc (⟨z.a+k,⟨z.r.left - 1,-1,z.r.words++[Af s],hh⟩,p8,c8,z.hs,z.ls,z.pd,z.cd⟩:FdY) ⟨rfl,rfl,rfl,trivial⟩ ⟨⟨hR10,⟨hO10.gv,hO10.cm,hO10.fr,hO10.np,hO10.npw,hO10.h8,hO10.h2,hO10.ob⟩,hrun,by simp only;omega,⟨⟨by simp only;omega,by simp only;omega⟩,by simp only [List.length_append,List.length_singleton];omega,fun e=>by simp only at e;omega⟩,by simp only;omega⟩,by simp only;omega⟩ (by simp only;omega)
open Go.V Go.RowKit Go.Conc
structure Cx (g:Nat→Nat) (w:World) (j c cap:Nat) (buf:Array Value):Prop where
 ex:∃s r,w.heap[c]?=some (.chan cap buf false s r false)
 tag:g c=j
theorem Cx.lt {g:Nat→Nat} {w:World} {j c cap:Nat} {buf:Array Value} (h:Cx g w j c cap buf):c<w.heap.size:=by
 obtain ⟨s,r,h1⟩:=h.ex
 exact (Array.getElem?_eq_some_iff.1 h1).1
theorem Cx.stp {ix:Nat} {T:List Nat} {g g':Nat→Nat} {w w':World} {j c cap:Nat} {buf:Array Value} (h:Cx g w j c cap buf) (s:Stq ix T g g' w w') (hj:j ∉ T):Cx g' w' j c cap buf:=by
 have hl:=h.lt
 obtain ⟨a,b,h1⟩:=h.ex
 exact ⟨⟨a,b,(s.block c hl (fun e=>absurd e.2 (Gx h1 rfl)) (fun _=>by rw [h.tag];exact hj)).trans h1⟩,by rw [s.tags c hl];exact h.tag⟩
theorem Cx.ext {g:Nat→Nat} {w w':World} {j c cap:Nat} {buf:Array Value} (h:Cx g w j c cap buf) (hx:Ext w w') (u:Nat):Cx (rt g w u) w' j c cap buf:=h.stp (ix:=0) (T:=[]) (Stq.of_ext hx u) (by simp)
theorem FZ (w:World) (c cap:Nat) (buf:Array Value) (s r:Nat):w.setChan c cap buf false s r false=w.putObj c (.chan cap buf false s r false):=rfl
theorem Cx.set {g:Nat→Nat} {w:World} {j c cap:Nat} {buf buf':Array Value} (h:Cx g w j c cap buf) (s r u:Nat):Cx (rt g w u) (w.setChan c cap buf' false s r false) j c cap buf' :=
 ⟨⟨s,r,by rw [FZ];exact World.putObj_heap_same h.lt⟩,(AY h.lt).trans h.tag⟩
theorem Cx.stpG {ix:Nat} {T:List Nat} {g:Nat→Nat} {w:World} {j c cap:Nat} {buf buf':Array Value} (h:Cx g w j c cap buf) (s r u:Nat) (hT:j∈T):Stq ix T g (rt g w u) w (w.setChan c cap buf' false s r false):=by
 obtain ⟨a,b,h1⟩:=h.ex
 rw [FZ]
 exact Stq.of_grown (Br c _) u (Gx h1 rfl) (by rw [h.tag];exact hT)
theorem Cx.gr {w:World} {c cap:Nat} {buf:Array Value} {s r:Nat}:w.grownBy (w.setChan c cap buf false s r false) (some c):=by rw [FZ];exact Br c _
theorem Cx.neB {g g':Nat→Nat} {w:World} {j j' c cap b t:Nat} {buf:Array Value} {cs:List Value} (h:Cx g w j c cap buf) (k:Bk g' w j' b t cs):c≠b:=fun e=>by
 obtain ⟨s,r,h1⟩:=h.ex
 have:=k.blk
 unfold Blk at this
 rw [← e,h1] at this
 cases this
theorem Cx.neR {α:Type} {e:Enc α} {g g':Nat→Nat} {w:World} {j j' c cap t d:Nat} {buf:Array Value} {p:Option Addr} {xs:List α} (h:Cx g w j c cap buf) (k:Rw g' w j' t e p d xs):∀q,blk p=some q→some c≠some q:=fun q hq e'=>by
 obtain ⟨s,r,h1⟩:=h.ex
 obtain ⟨cur,h2⟩:=Go.V.Own.at k.own hq
 injection e' with e'
 rw [← e',h1] at h2
 cases h2
theorem Cx.turn {g:Nat→Nat} {w w':World} {j j' c cap b t:Nat} {buf:Array Value} {cs:List Value} (h:Cx g w j c cap buf) (k:Bk g w j' b t cs) (hg:w.grownBy w' (some b)) (u:Nat):Cx (rt g w u) w' j c cap buf:=by
 have hn:=h.neB k
 obtain ⟨s,r,h1⟩:=h.ex
 exact ⟨⟨s,r,(hg.block c h.lt (fun e=>hn (by injection e))).trans h1⟩,(AY h.lt).trans h.tag⟩
theorem Cx.turnR {α:Type} {e:Enc α} {g:Nat→Nat} {w w':World} {j j' c cap t d:Nat} {buf:Array Value} {p:Option Addr} {xs:List α} (h:Cx g w j c cap buf) (k:Rw g w j' t e p d xs) (hg:w.grownBy w' (blk p)) (u:Nat):Cx (rt g w u) w' j c cap buf:=by
 have hn:=h.neR k
 obtain ⟨s,r,h1⟩:=h.ex
 exact ⟨⟨s,r,(hg.block c h.lt (fun e=>hn c e.symm rfl)).trans h1⟩,(AY h.lt).trans h.tag⟩
structure RdA (g:Nat→Nat) (w:World) (j rd:Nat):Prop where
 ex:∃p c pw cw,Bk g w j rd 192 [.slice p 0 c,.int .i64 ((0:Nat):Int),.int .i64 ((0:Nat):Int),.int .i64 (-1),.slice pw 0 cw,.int .i64 ((0:Nat):Int),.int .i64 0]∧Rw g w j 5 Ai p c []∧Rw g w j 9 Ar pw cw []∧(∀k,blk p=some k→rd+1≤k)∧(∀k,blk pw=some k→rd+1≤k)
theorem RdA.stp {ix:Nat} {T:List Nat} {g g':Nat→Nat} {w w':World} {j rd:Nat} (h:RdA g w j rd) (s:Stq ix T g g' w w') (hj:j ∉ T):RdA g' w' j rd:=by
 obtain ⟨p,c,pw,cw,h1,h2,h3,h4,h5⟩:=h.ex
 exact ⟨p,c,pw,cw,h1.stp s hj,h2.stp s hj,h3.stp s hj,h4,h5⟩
theorem RdA.ext {g:Nat→Nat} {w w':World} {j rd:Nat} (h:RdA g w j rd) (hx:Ext w w') (u:Nat):RdA (rt g w u) w' j rd:=h.stp (ix:=0) (T:=[]) (Stq.of_ext hx u) (by simp)
theorem Ux {α:Type} {e:Enc α} {w:World} {B B' T:Nat} {p:Option Addr} {c:Nat} {xs:List α} (h:Go.V.Own w B T e p c xs) (hb:∀k,blk p=some k→B'≤k):Go.V.Own w B' T e p c xs:=by
 obtain ⟨h1,h2⟩:=h
 refine ⟨h1,?_⟩
 rcases h2 with h2|⟨g,cap,cur,h3,h4,h5⟩
 ·exact .inl h2
 ·refine .inr ⟨g,cap,cur,h3,?_,h5⟩
  have:=hb g (by cases p <;> simp_all [blk])
  omega
theorem RdA.rd {g:Nat→Nat} {w W0:World} {j rd:Nat} (h:RdA g w j rd) (hx:Ext W0 w) (h0:W0.heap.size≤rd):∃p c pw cw,Ba W0 w rd (rd+1) p c [] 0 pw cw rs0 0∧(∀k,k=rd∨blk p=some k∨blk pw=some k→¬IxB w k∧g k=j):=by
 obtain ⟨p,c,pw,cw,h1,h2,h3,h4,h5⟩:=h.ex
 refine ⟨p,c,pw,cw,⟨h1.blk,Ux h2.own h4,Ux h3.own h5,hx,h0,Nat.lt_succ_self _,h1.lt,by simp⟩,fun k hk=>?_⟩
 rcases hk with rfl|e|e
 ·exact ⟨h1.nix,h1.tag⟩
 ·exact ⟨h2.nix e,h2.tag k e⟩
 ·exact ⟨h3.nix e,h3.tag k e⟩
theorem RdA.of {g:Nat→Nat} {w W0:World} {j rd:Nat} {p pw:Option Addr} {c cw:Nat} (h:Ba W0 w rd (rd+1) p c [] 0 pw cw rs0 0) (hg:∀k,k=rd∨blk p=some k∨blk pw=some k→g k=j):RdA g w j rd :=
 ⟨p,c,pw,cw,⟨h.blk,hg _ (.inl rfl),by unfold ixT;decide⟩,⟨h.row.base (Nat.zero_le _),fun k hk=>hg k (.inr (.inl hk)),by unfold ixT;decide⟩,⟨h.wds.base (Nat.zero_le _),fun k hk=>hg k (.inr (.inr hk)),by unfold ixT;decide⟩,fun k hk=>(h.row.ge k hk).1,fun k hk=>(h.wds.ge k hk).1⟩

theorem Xx {ix:Nat} {g:Nat→Nat} {w W0:World} {j rd:Nat} {q q1:Option Addr} {d d1:Nat} {l:List ByteArray} (hR:RdA g w j rd) (hx:Ext W0 w) (h0:W0.heap.size≤rd) (hS:SlT g w 0 Eu q d [(q1,(prB l).length,d1)]) (hb:SlT g w 0 Ai q1 d1 (prB l)) (hj:j≠0) (hl:FE l) (hT:Pow W0) (hE:CL W0) :
  Ctr Tryz.prog 56 [.pointer (some (adr (bx rd) 0)),.slice q 1 d] w (fun v w'=>∃pd cd q2 d2 g',v=.tuple #[.slice pd 1 cd,.int .i64 0]∧Stq ix [j] g g' w w'∧RdA g' w' j rd∧SlT g' w' j Eu pd cd [(q2,l.length,d2)]∧SlT g' w' j Ar q2 d2 l):=by
 obtain ⟨p,c,pw,cw,hR0,hF⟩:=hR.rd hx h0
 have hlen:(prB l).length≤1000000:=by
  have:=PT (l:=l) (by have:=hl.len;omega) (fun x hx=>by have:=hl.words x hx;omega)
  have:=hl.len
  omega
 have nq:∀{α:Type} {e:Enc α} {p':Option Addr} {c':Nat} {xs:List α},SlT g w 0 e p' c' xs→∀x,p'=some x→¬(x.block=rd∨blk p=some x.block):=fun hs x hx e=>by
  have h1:=(hs.tag x hx).2.1
  have h2:=(hF x.block (by rcases e with e|e <;> simp [e])).2
  exact hj (by rw [← h2,h1])
 have h:=Pi hR0 (q:=q) (d:=d) (ks:=[(q1,(prB l).length,d1)]) (parts:=[prB l]) hS.sl (fun x hx _=>nq hS x hx) (Sr hb.sl (fun x hx _=>nq hb x hx)) (by simpa using Nat.le_trans hlen (by decide)) (by decide) hT hE LF
 refine h.mono ?_
 rintro v w' ⟨hf,pd,cd,hs,p',c',pw',cw',rfl,hO,hC,hnp,hnpw,hok,_,hob⟩
 have hrun:BD rs0 ([]++[prB l].flatten)=⟨[l],rs0,[],0⟩:=by
  have:=SC [] hl
  rw [Ws,List.append_nil] at this
  simpa using this
 rw [hrun] at hC hok ⊢
 have hS1:Stq ix [j] g (rt g w j) w w':=Stq.of_frs hf j (fun k hk hk'=>⟨(hF k hk').1,by simp [(hF k hk').2]⟩)
 have hsz:=hf.size
 have tg:∀k,(k<w.heap.size→g k=j)→rt g w j k=j:=fun k hk=>by
  by_cases h:k<w.heap.size
  ·rw [AY h];exact hk h
  ·exact CU (by omega)
 obtain ⟨h1,h2⟩:=hC
 match hs,h1 with
 | [(q2,n2,d2)],_ =>
  obtain ⟨e1,e2⟩:=h2 0 _ l rfl rfl
  simp only at e1 e2
  subst e1
  refine ⟨pd,cd,q2,d2,rt g w j,rfl,hS1,RdA.of (hok rfl) (fun k hk=>tg k (fun hlt=>?_)),⟨hO.sl,fun a ha=>?_⟩,⟨?_,?_⟩⟩
  ·rcases hk with e|e|e
   ·exact (hF k (.inl e)).2
   ·rcases hnp k e with e|e
    ·exact (hF k (.inr (.inl e))).2
    ·omega
   ·rcases hnpw k e with e|e
    ·exact (hF k (.inr (.inr e))).2
    ·omega
  ·have hk:blk pd=some a.block:=by rw [ha];rfl
   have h5:=hO.ge _ hk
   exact ⟨h5.2,CU h5.1,(Own.noB hO (by unfold ixT;decide) hk).not⟩
  ·exact Sl.cells (fun a v hv=>(BQ.1 hv).2.2) e2
  ·intro a ha
   obtain ⟨x,hx0⟩:∃x,l[0]?=some x:=by
    cases l with
    | nil=>exact absurd rfl hl.pos
    | cons x _=>exact ⟨x,rfl⟩
   have hc:=e2.cell 0 x hx0 0 _ rfl
   obtain ⟨hS,⟨o,ho,_⟩,_⟩:=BQ.1 hc
   subst ha
   have hb:(adr (some a) (0 * Ar.sz+0)).block=a.block:=rfl
   rw [hb] at hS ho
   have hlt:=(Array.getElem?_eq_some_iff.1 ho).1
   have hstr:Lg w'.heap a.block:=Classical.byContradiction fun e=>hS (.inr e)
   obtain ⟨cur,hcur⟩:=hstr
   refine ⟨hlt,tg _ (fun h=>?_),NoB.not ⟨cur,_,_,hcur,by unfold ixT;decide⟩⟩
   rcases hob _ (List.mem_singleton.2 rfl) a.block rfl with e|e
   ·exact (hF _ (.inr (.inr e))).2
   ·omega
end Go.Proofs.YtkcolpfanmdmiaaGreatDoor
namespace Go.V
variable {l : List Oper}
variable {d : Option Nat} {g : Option (Nat × Bool)} {k : IntKind} {i j : Int}
theorem Q112 (hx:E.look x=some (.int k i)) (hy:E.look y=some (.int k j)) (hlt:i<j) (hd:Ah n d=true) (h:G P n ops dr l (E.put d (.bool true)) w K):G1 P n ops dr ⟨d,.binOp .lss t x y t',ty,pos,af,g⟩ l E w K :=
 Zaw hx hy hd (by rw [decide_eq_true hlt];exact h)
end Go.V
namespace Go.Proofs.YtkcolpfanmdmiaaGreatDoor
open Go.V Go.RowKit Go.Conc
attribute [local irreducible] PlainT
theorem T.p127:PlainT Tryz.prog 127:=PlainT.of Tryz.underlying127 rfl
structure AV (g:Nat→Nat) (w:World) (b ss cl rd qc:Nat) (po:Option Addr) (co:Nat) (out:List UInt8) (buf:Array Value):Prop where
 box:Bk g w b ss 129 [.pointer (some (adr (bx cl) 0)),.pointer (some (adr (bx rd) 0)),.chan (some qc),.slice po out.length co,.bool false,.bool false]
 ch:Cx g w b qc 64 buf
 row:Rw g w b 5 Ai po co out
 rd:RdA g w (b+3) rd
theorem AV.stp {ix:Nat} {T:List Nat} {g g':Nat→Nat} {w w':World} {b ss cl rd qc:Nat} {po:Option Addr} {co:Nat} {out:List UInt8} {buf:Array Value} (h:AV g w b ss cl rd qc po co out buf) (s:Stq ix T g g' w w') (h1:b ∉ T) (h2:b+3 ∉ T):AV g' w' b ss cl rd qc po co out buf :=
 ⟨h.box.stp s h1,h.ch.stp s h1,h.row.stp s h1,h.rd.stp s h2⟩
theorem AV.ext {g:Nat→Nat} {w w':World} {b ss cl rd qc:Nat} {po:Option Addr} {co:Nat} {out:List UInt8} {buf:Array Value} (h:AV g w b ss cl rd qc po co out buf) (hx:Ext w w') (u:Nat):AV (rt g w u) w' b ss cl rd qc po co out buf:=h.stp (ix:=0) (T:=[]) (Stq.of_ext hx u) (by simp) (by simp)
variable {rd : Nat}
set_option maxRecDepth 20000 in
theorem FY (h:AV g w b ss cl rd qc po co out buf):Ctr Tryz.prog 31 [.pointer (some (adr (bx ss) 0))] w (fun v w'=>v=.bool false∧w=w'):=by
 have hb:=h.box.blk
 refine Ac Tryz.func31 Tryz.ntmps31 rfl rfl rfl ?_
 repeat' (first|refine R1 ?_|(refine Q1 ?_;first|(refine Q15 Tryz.underlying87 (t:=87) ?_)|(refine Q15 Tryz.underlying125 (t:=125) ?_)|(refine Q2 (hu:=by (first|exact T.f129_0|exact T.f129_5)) ?_)|(refine Q3 (hu:=by (first|exact T.p125|exact T.p4)) ?_))|refine R2 ?_|fail)
 all_goals try (exfalso;simp only at *;omega)
 refine Kr Tryz.results31 ?_
 exact ⟨rfl,rfl⟩
set_option maxRecDepth 20000 in
theorem HY (h:AV g w b ss cl rd qc po co out buf) (ho:out.length<65536):Ctr Tryz.prog 57 [.pointer (some (adr (bx ss) 0))] w (fun v w'=>v=.bool (decide (0<buf.size))∧w=w'):=by
 have hb:=h.box.blk
 obtain ⟨s,r,hch⟩:=h.ch.ex
 have ho':(out.length:Int)<65536:=by omega
 refine Ac Tryz.func57 Tryz.ntmps57 rfl rfl rfl ?_
 repeat' (first|refine R1 ?_|(refine Q1 ?_;first|(refine Q4 (f:=31) (hc:=FY h) ?_;rintro _ _ ⟨rfl,rfl⟩;refine Kc ?_)|(refine Q3 (t:=127) (hu:=T.p127) (hb:=hb) ?_)|(refine Q112 rfl rfl ho' rfl ?_)|refine Q71 Tryz.underlying127 hch ?_|(refine Q2 (hu:=by (first|exact T.f129_3|exact T.f129_2|exact T.f129_4)) ?_)|(refine Q3 (hu:=by (first|exact T.p40|exact T.p4)) ?_)|(refine Q6 (hu:=T.s40) ?_))|refine R2 ?_|((fail_if_success (refine Q1 ?_));apply Zb;exact rfl;exact rfl;all_goals (intro h;try (exfalso;omega)))|fail)
 all_goals
  refine Kr Tryz.results57 ?_
  refine ⟨congrArg Value.bool ?_,rfl⟩
  first|exact (decide_eq_true (by omega)).symm|exact (decide_eq_false (by omega)).symm
set_option maxRecDepth 20000 in
theorem Oo (h:AV g w b ss cl rd qc po co out buf):Ctr Tryz.prog 62 [.pointer (some (adr (bx ss) 0))] w (fun v w'=>v=.tuple #[.int .i64 (buf.size:Int),.int .i64 (out.length:Int)]∧Ext w w'):=by
 have hb:=h.box.blk
 obtain ⟨s,r,hch⟩:=h.ch.ex
 refine Ac Tryz.func62 Tryz.ntmps62 rfl rfl rfl ?_
 repeat' (first|refine R1 ?_|(refine Q1 ?_;first|(refine Q15 Tryz.underlying87 (t:=87) ?_)|(refine Q3 (t:=127) (hu:=T.p127) (hb:=hb) ?_)|refine Q71 Tryz.underlying127 hch ?_|(refine Q2 (hu:=by (first|exact T.f129_2|exact T.f129_3)) ?_)|(refine Q3 (hu:=T.p40) ?_)|(refine Q6 (hu:=T.s40) ?_))|refine R2 ?_|refine Zf 1 [] [0,1,2,3,4,5,6,7,8,9,10,11] mixed (by decide +kernel) ?_|fail)
 refine Kr Tryz.results62 ?_
 exact ⟨rfl,Ext.drew Ext.rfl'⟩
theorem QX:Ag Tryz.prog 61 (.slice none 0 0):=Ag.of (by kernel_rfl)
set_option maxRecDepth 20000 in
theorem SE (h:AV g w b ss cl rd qc po co out #[]) (_:b≠0) (hx:Ext W0 w) (h0:W0.heap.size≤rd) (hS:SlT g w 0 Eu q d [(q1,(prB l).length,d1)]) (hB:SlT g w 0 Ai q1 d1 (prB l)) (hl:FE l) (hT:Pow W0) (hE:CL W0) :
  Ctr Tryz.prog 40 [.pointer (some (adr (bx ss) 0)),.slice q 1 d] w (fun v w'=>v=.int .i64 0∧∃g' q2 d2,Stq ix [b,b+3] g g' w w'∧AV g' w' b ss cl rd qc po co out #[.slice q2 l.length d2]∧SlT g' w' (b+3) Ar q2 d2 l):=by
 have hb:=h.box.blk
 refine Ac Tryz.func40 Tryz.ntmps40 rfl rfl rfl ?_
 repeat' (first|refine R1 ?_|(refine Q1 ?_;first|(refine Q4 (f:=31) (hc:=FY h) ?_;rintro _ _ ⟨rfl,rfl⟩;refine Kc ?_)|(refine Q2 (hu:=by (first|exact T.f129_4|exact T.f129_1)) ?_)|(refine Q3 (hu:=by (first|exact T.p4|exact T.p126)) ?_))|apply ZF|refine R2 ?_|fail)
 refine Q1 ?_;refine Q4 (hc:=Xx (ix:=ix) h.rd hx h0 hS hB (by omega) hl hT hE) ?_;rintro _ w1 ⟨pd,cd,q2,d2,g1,rfl,hS1,hR1,hC1,hW1⟩;refine Kc ?_
 have hB1:=h.box.stp hS1 (by simp)
 have hch1:=h.ch.stp hS1 (by simp)
 have hrow1:=h.row.stp hS1 (by simp)
 have hb1:=hB1.blk
 repeat' (first|refine R1 ?_|(refine Q1 ?_;(refine Q2 (hu:=T.f129_4) ?_))|refine R2 ?_|fail)
 refine Q1 ?_;refine Q5 T.z4 hb1 ?_;intro w2 hb2 hg2 hs2
 replace hb2:Blk w2.heap ss 129 [.pointer (some (adr (bx cl) 0)),.pointer (some (adr (bx rd) 0)),.chan (some qc),.slice po out.length co,.bool false,.bool false]:=hb2
 have hS2:=hB1.stpG (T:=[b]) (ix:=ix) hg2 0 (by simp)
 have hB2:=hB1.turned (u:=0) hb2
 repeat' (first|refine R1 ?_|(refine Q1 ?_;(refine Q6 (hu:=T.s146) ?_))|apply ZK|refine R2 ?_|fail)
 have hC2:=hC1.stp hS2 (by simp)
 have hR2:=hR1.stp hS2 (by simp)
 have hW2:=hW1.stp hS2 (by simp)
 have hrow2:=hrow1.turn hg2 (fun k hk e=>hrow1.neB hB1 (by decide) (by rw [hk];exact e.symm)) 0
 have hch2:=hch1.turn hB1 hg2 0
 obtain ⟨s,r,hch⟩:=hch2.ex
 have hsl:=hC2.sl
 have hg0:[(q2,l.length,d2)][0]?=some (q2,l.length,d2):=rfl
 refine Zm ?_
 repeat' (first|(refine ZV 0 rfl rfl ?_)|refine R1 ?_|(refine Q1 ?_;first|(refine Q10 T.s146 hsl.ok (q:=0) (h1:=by (simp)) ?_)|(refine Q9 T.p61 (q:=0) (e:=Eu) (hs:=hsl) (hq:=hg0) ?_)|(refine Q3 (t:=127) (hu:=T.p127) (hb:=hb2) ?_)|(refine Q2 (hu:=T.f129_2) ?_))|refine R2 ?_|fail)
 refine ⟨_,_,Ik.send rfl rfl hch (by decide) QX,?_⟩
 have hS3:=hch2.stpG (T:=[b]) (ix:=ix) (buf':=(#[]:Array Value).push (.slice q2 l.length d2)) (s+1) r 0 (by simp)
 have hch3:=hch2.set (buf':=(#[]:Array Value).push (.slice q2 l.length d2)) (s+1) r 0
 have hg3:=Cx.gr (w:=w2) (c:=qc) (cap:=64) (buf:=(#[]:Array Value).push (.slice q2 l.length d2)) (s:=s+1) (r:=r)
 have hB3:=hB2.turn hg3 (fun e=>hch2.neB hB2 (by injection e)) 0
 have hrow3:=hrow2.turn hg3 (hch2.neR hrow2) 0
 have hR3:=hR2.stp hS3 (by simp)
 have hW3:=hW2.stp hS3 (by simp)
 have hb3:=hB3.blk
 repeat' (first|refine R1 ?_|refine R2 ?_|fail)
 refine Zg ?_
 repeat' (first|refine R1 ?_|(refine Q1 ?_;first|(refine Q2 (hu:=T.f129_4) ?_)|(refine Q3 (hu:=T.p4) ?_))|apply Zo|refine R2 ?_|fail)
 all_goals try (exfalso;omega)
 refine Kr Tryz.results40 ?_
 exact ⟨rfl,_,q2,d2,((hS1.mono (by simp)).trans (hS2.mono (by simp))).trans (hS3.mono (by simp)),⟨hB3,hch3,hrow3,hR3⟩,hW3⟩
open Go.V
attribute [local irreducible] Blk Own hcell Ao Ab Ak Ad Ap Aa Ag EqT Au
theorem zrL:Ag Tryz.prog 208 .nilFunc:=Ag.of (by kernel_rfl)
theorem zrP:Ag Tryz.prog 209 .nilFunc:=Ag.of (by kernel_rfl)
theorem szL:Ad Tryz.prog 208 1:=Ad.of (by kernel_rfl)
theorem szP:Ad Tryz.prog 209 1:=Ad.of (by kernel_rfl)
def wR (ts:List Rep):List UInt8:=ts.flatMap (fun t=>if Bu 4 t=true then wT 4 t else [])
theorem WL {ts:List Rep} {i:Nat} {t:Rep} (h:ts[i]?=some t):wR (ts.take (i+1))=wR (ts.take i)++(if Bu 4 t=true then wT 4 t else []):=by
 unfold wR
 rw [AJ h,List.flatMap_append]
 simp
theorem Oc {e:Nat} {r:Bg} {t:Rep} {w:World} (hs0:Ef 5 t) (hr:Cc w.heap e r t) (hne:t.kind≠5) :
  Ctr Tryz.prog 157 [.agg (Aq.enc r).toArray,.int .i64 0] w (fun v w'=>v=.bool (Bu 4 t)∧Ext w w'):=by
 obtain ⟨e,rs,rfl,hk,hs,hn,hl,hsz,hfit,hL⟩:=hr.open
 have n1:=hL.sl.bound
 have hlen:=hL.len
 have hsm:=hs0.1
 refine Ac Tryz.func157 Tryz.ntmps157 rfl rfl rfl ?_
 repeat' (refine R1 ?_)
 refine Q1 ?_;refine Q8 ?_;intro a1 w1 ha1 hA1 hx1 hs1
 replace hA1:Blk w1.heap a1 33 [.int .i64 r.kind,.string r.s,.int .i64 r.n,.slice r.p r.len r.cap]:=hA1
 rw [hk,hs,hn,hl] at hA1
 by_cases hk5:t.kind=5
 rotate_left
 ·rw [Og hk5]
  by_cases hk01:t.kind=0∨t.kind=1
  ·by_cases hn0:t.n=0∧rs.length=0
   ·rw [Gt t (EU t.s) ⟨fun h=>⟨⟨by omega,by omega,by omega,by omega,by omega⟩,fun _=>h⟩,fun h=>h.2 (by omega)⟩]
    repeat' (first|refine R1 ?_|(refine Q1 ?_;first|(refine Q4 (f:=223) (hc:=OY (by omega)) ?_;rintro _ w2 ⟨rfl,hx2⟩;refine Kc ?_)|(refine Q2 (hu:=by (first|exact T.f33_0|exact T.f33_2|exact T.f33_3|exact T.f33_1)) ?_)|(refine Q3 (hu:=by (first|exact T.p3|exact T.p31|exact T.p9)) ?_)|(refine Q6 (hu:=T.s31) ?_))|refine R2 ?_|(apply Za;exact rfl;all_goals (intro h;try (exfalso;omega)))|((fail_if_success (refine Q1 ?_));apply Zb;exact rfl;exact rfl;all_goals (intro h;try (exfalso;omega)))|fail)
    all_goals
     refine Kr Tryz.results157 ?_
     exact ⟨by show Value.bool (!(!EU t.s))=_;rw [Bool.not_not],Kz⟩
   ·rw [De t (fun h=>absurd ⟨h.1.num (by omega),by have:=h.1.list (by omega);omega⟩ hn0)]
    repeat' (first|refine R1 ?_|(refine Q1 ?_;first|(refine Q2 (hu:=by (first|exact T.f33_0|exact T.f33_2|exact T.f33_3)) ?_)|(refine Q3 (hu:=by (first|exact T.p3|exact T.p31)) ?_)|(refine Q6 (hu:=T.s31) ?_))|refine R2 ?_|(apply Za;exact rfl;all_goals (intro h;try (exfalso;omega)))|((fail_if_success (refine Q1 ?_));apply Zb;exact rfl;exact rfl;all_goals (intro h;try (exfalso;omega)))|fail)
    all_goals
     refine Kr Tryz.results157 ?_
     exact ⟨rfl,Kz⟩
  by_cases hk2:t.kind=2
  ·by_cases hse:t.s=⟨#[]⟩
   ·rw [Gt t (decide ((rs.length:Int)=0)) ⟨fun h=>⟨⟨by omega,by omega,by have:=of_decide_eq_true h;omega,by omega,fun _ _ _=>hse⟩,by omega⟩,fun h=>decide_eq_true (by have:=h.1.list (by omega);omega)⟩]
    repeat' (first|refine R1 ?_|(refine Q1 ?_;first|(refine Q2 (hu:=by (first|exact T.f33_0|exact T.f33_3|exact T.f33_1)) ?_)|(refine Q3 (hu:=by (first|exact T.p3|exact T.p31|exact T.p9)) ?_)|(refine Q6 (hu:=T.s31) ?_))|refine R2 ?_|(apply Za;exact rfl;all_goals (intro h;try (exfalso;omega)))|((fail_if_success (refine Q1 ?_));apply Zb;exact rfl;exact rfl;all_goals (intro h;try (exfalso;omega)))|fail)
    all_goals try contradiction
    refine Kr Tryz.results157 ?_
    exact ⟨rfl,Kz⟩
   ·rw [De t (fun h=>absurd (h.1.text (by omega) (by omega) (by omega)) hse)]
    repeat' (first|refine R1 ?_|(refine Q1 ?_;first|(refine Q2 (hu:=by (first|exact T.f33_0|exact T.f33_3|exact T.f33_1)) ?_)|(refine Q3 (hu:=by (first|exact T.p3|exact T.p31|exact T.p9)) ?_)|(refine Q6 (hu:=T.s31) ?_))|refine R2 ?_|(apply Za;exact rfl;all_goals (intro h;try (exfalso;omega)))|((fail_if_success (refine Q1 ?_));apply Zb;exact rfl;exact rfl;all_goals (intro h;try (exfalso;omega)))|fail)
    all_goals try contradiction
    refine Kr Tryz.results157 ?_
    exact ⟨rfl,Kz⟩
  by_cases hk3:t.kind=3
  ·by_cases hn0:t.n=0
   ·rw [Gt t (decide ((rs.length:Int)=0)) ⟨fun h=>⟨⟨by omega,by omega,by have:=of_decide_eq_true h;omega,by omega,by omega⟩,by omega⟩,fun h=>decide_eq_true (by have:=h.1.list (by omega);omega)⟩]
    repeat' (first|refine R1 ?_|(refine Q1 ?_;first|(refine Q2 (hu:=by (first|exact T.f33_0|exact T.f33_2|exact T.f33_3)) ?_)|(refine Q3 (hu:=by (first|exact T.p3|exact T.p31)) ?_)|(refine Q6 (hu:=T.s31) ?_))|refine R2 ?_|(apply Za;exact rfl;all_goals (intro h;try (exfalso;omega)))|((fail_if_success (refine Q1 ?_));apply Zb;exact rfl;exact rfl;all_goals (intro h;try (exfalso;omega)))|fail)
    refine Kr Tryz.results157 ?_
    exact ⟨rfl,Kz⟩
   ·rw [De t (fun h=>absurd (h.1.num (by omega)) hn0)]
    repeat' (first|refine R1 ?_|(refine Q1 ?_;first|(refine Q2 (hu:=by (first|exact T.f33_0|exact T.f33_2)) ?_)|(refine Q3 (hu:=T.p3) ?_))|refine R2 ?_|(apply Za;exact rfl;all_goals (intro h;try (exfalso;omega)))|((fail_if_success (refine Q1 ?_));apply Zb;exact rfl;exact rfl;all_goals (intro h;try (exfalso;omega)))|fail)
    refine Kr Tryz.results157 ?_
    exact ⟨rfl,Kz⟩
  by_cases hk4:t.kind=4
  ·by_cases hse:t.s=⟨#[]⟩
   ·by_cases hn0:t.n=0
    ·rw [Gt t (decide ((rs.length:Int)=0)) ⟨fun h=>⟨⟨by omega,by omega,by have:=of_decide_eq_true h;omega,by omega,fun _ _ _=>hse⟩,by omega⟩,fun h=>decide_eq_true (by have:=h.1.list (by omega);omega)⟩]
     repeat' (first|refine R1 ?_|(refine Q1 ?_;first|(refine Q2 (hu:=by (first|exact T.f33_0|exact T.f33_2|exact T.f33_3|exact T.f33_1)) ?_)|(refine Q3 (hu:=by (first|exact T.p3|exact T.p31|exact T.p9)) ?_)|(refine Q6 (hu:=T.s31) ?_))|refine R2 ?_|(apply Za;exact rfl;all_goals (intro h;try (exfalso;omega)))|((fail_if_success (refine Q1 ?_));apply Zb;exact rfl;exact rfl;all_goals (intro h;try (exfalso;omega)))|fail)
     all_goals try contradiction
     refine Kr Tryz.results157 ?_
     exact ⟨rfl,Kz⟩
    ·rw [De t (fun h=>absurd (h.1.num (by omega)) hn0)]
     repeat' (first|refine R1 ?_|(refine Q1 ?_;first|(refine Q2 (hu:=by (first|exact T.f33_0|exact T.f33_2|exact T.f33_1)) ?_)|(refine Q3 (hu:=by (first|exact T.p3|exact T.p9)) ?_))|refine R2 ?_|(apply Za;exact rfl;all_goals (intro h;try (exfalso;omega)))|((fail_if_success (refine Q1 ?_));apply Zb;exact rfl;exact rfl;all_goals (intro h;try (exfalso;omega)))|fail)
     all_goals try contradiction
     refine Kr Tryz.results157 ?_
     exact ⟨rfl,Kz⟩
   ·rw [De t (fun h=>absurd (h.1.text (by omega) (by omega) (by omega)) hse)]
    repeat' (first|refine R1 ?_|(refine Q1 ?_;first|(refine Q2 (hu:=by (first|exact T.f33_0|exact T.f33_2|exact T.f33_3|exact T.f33_1)) ?_)|(refine Q3 (hu:=by (first|exact T.p3|exact T.p31|exact T.p9)) ?_)|(refine Q6 (hu:=T.s31) ?_))|refine R2 ?_|(apply Za;exact rfl;all_goals (intro h;try (exfalso;omega)))|((fail_if_success (refine Q1 ?_));apply Zb;exact rfl;exact rfl;all_goals (intro h;try (exfalso;omega)))|fail)
    all_goals try contradiction
    refine Kr Tryz.results157 ?_
    exact ⟨rfl,Kz⟩
  ·rw [De t (fun h=>by have:=h.1.lo;have:=h.1.hi;omega)]
   repeat' (first|refine R1 ?_|(refine Q1 ?_;first|(refine Q2 (hu:=T.f33_0) ?_)|(refine Q3 (hu:=T.p3) ?_))|refine R2 ?_|(apply Za;exact rfl;all_goals (intro h;try (exfalso;omega)))|fail)
   refine Kr Tryz.results157 ?_
   exact ⟨rfl,Kz⟩
 exact absurd hk5 hne
theorem PU {e:Nat} {r:Bg} {t:Rep} {w:World} (hs0:Ef 5 t) (hr:Cc w.heap e r t) (hne:t.kind≠5) :
  Ctr Tryz.prog 95 [.agg (Aq.enc r).toArray] w (fun v w'=>v=.bool (Bu 4 t)∧Ext w w'):=by
 refine Ac Tryz.func95 Tryz.ntmps95 rfl rfl rfl ?_
 repeat' (refine R1 ?_)
 refine Q1 ?_;refine Q8 ?_;intro a1 w1 ha1 hA1 hx1 hs1
 replace hA1:Blk w1.heap a1 33 (Aq.enc r):=hA1
 replace hr:=hr.ext hx1
 repeat' (first|refine R1 ?_|(refine Q1 ?_;refine Q11 T.a33 ?_)|fail)
 refine Q1 ?_;refine Q4 (hc:=Oc hs0 hr hne) ?_;rintro _ w2 ⟨rfl,hx2⟩;refine Kc ?_
 repeat' (first|refine R1 ?_|refine R2 ?_|fail)
 refine Kr Tryz.results95 ?_
 exact ⟨rfl,Kz⟩
theorem Sv {w0:World} (hT:Pow w0):∀{e:Nat} {r:Bg} {t:Rep} {w:World} {B a aL aP:Nat} {tL tP:TypeId} {p:Option Addr} {c:Nat} {bs:List UInt8},Bu 4 t=true→t.kind≠5→Cc w0.heap e r t→EO w0 w B a aL aP tL tP p c bs→bs.length+(wT 4 t).length≤1000000000 →
  Ctr Tryz.prog 93 [.agg (Aq.enc r).toArray,.pointer (some (adr (bx aL) 0)),.pointer (some (adr (bx a) 0)),.pointer (some (adr (bx aP) 0))] w (fun v w'=>v=.tuple #[]∧∃p' c',EO w0 w' B a aL aP tL tP p' c' (bs++wT 4 t)):=by
 intro e r t w B a aL aP tL tP p c bs hri hne hr h hlen
 have hlf:=FX hri
 obtain ⟨e,rs,rfl,hk,hs,hn,hl,hsz,hfit,hL⟩:=hr.open
 simp only [maxLen] at hsz
 have n1:=hL.sl.bound
 have hll:=hL.len
 have hlo:=hlf.lo
 have hhi:=hlf.hi
 refine Ac Tryz.func93 Tryz.ntmps93 rfl rfl rfl ?_
 repeat' (refine R1 ?_)
 refine Q1 ?_;refine Q8 ?_;intro a4 w1 ha4 hA1 hx1 hs1
 replace hA1:Blk w1.heap a4 33 [.int .i64 r.kind,.string r.s,.int .i64 r.n,.slice r.p r.len r.cap]:=hA1
 rw [hk,hs,hn,hl] at hA1
 have h1:=h.xt hx1
 rcases (show t.kind=0∨t.kind=1∨t.kind=2∨t.kind=3∨t.kind=4∨t.kind=5 by omega) with hk0|hk0|hk0|hk0|hk0|hk0
 ·have ew:wT 4 t=43 :: (t.s.data.toList++Bp):=by simp [wT,BC,hk0]
  rw [ew] at hlen ⊢
  have hln:=h1.line
  repeat' (first|refine R1 ?_|(refine Q1 ?_;first|(refine Q3 (hu:=plL) (hb:=hln) ?_)|(refine Q2 (hu:=by (first|exact T.f33_0|exact T.f33_1)) ?_)|(refine Q3 (hu:=by (first|exact T.p3|exact T.p9)) ?_))|refine R2 ?_|(apply Za;exact rfl;all_goals (intro h;try (exfalso;omega)))|fail)
  refine Q1 ?_;refine Q22 (hc:=by exact Eb (m:=43) (by decide) h1 (by rw [Di];simp only [List.length_cons,List.length_append] at hlen;omega)) ?_;rintro _ w2 ⟨rfl,p2,c2,h2,x2⟩;refine Kc ?_
  repeat' (first|refine R1 ?_|refine R2 ?_|fail)
  refine Zk Tryz.results93 (vs:=[]) rfl ?_
  exact ⟨rfl,p2,c2,h2⟩
 ·have ew:wT 4 t=45 :: (t.s.data.toList++Bp):=by simp [wT,BC,hk0]
  rw [ew] at hlen ⊢
  have hln:=h1.line
  repeat' (first|refine R1 ?_|(refine Q1 ?_;first|(refine Q3 (hu:=plL) (hb:=hln) ?_)|(refine Q2 (hu:=by (first|exact T.f33_0|exact T.f33_1)) ?_)|(refine Q3 (hu:=by (first|exact T.p3|exact T.p9)) ?_))|refine R2 ?_|(apply Za;exact rfl;all_goals (intro h;try (exfalso;omega)))|fail)
  refine Q1 ?_;refine Q22 (hc:=by exact Eb (m:=45) (by decide) h1 (by rw [Di];simp only [List.length_cons,List.length_append] at hlen;omega)) ?_;rintro _ w2 ⟨rfl,p2,c2,h2,x2⟩;refine Kc ?_
  repeat' (first|refine R1 ?_|refine R2 ?_|fail)
  refine Zk Tryz.results93 (vs:=[]) rfl ?_
  exact ⟨rfl,p2,c2,h2⟩
 ·have ew:wT 4 t=58 :: (Lib.itoa t.n++Bp):=by simp [wT,BC,hk0]
  rw [ew] at hlen ⊢
  obtain ⟨g,hg⟩:∃g,g=Df p a:=⟨_,rfl⟩
  have hgB:g=a∨B≤g:=by
   rw [hg]
   cases hbk:blk p with
   | none=>left;unfold Df;rw [hbk];rfl
   | some k=>right;unfold Df;rw [hbk];exact (h1.own.ge k hbk).1
  have q1:=h1.h1
  have q2:=h1.h2
  have q4:=h1.h4
  have q5:=h1.hB
  have hgw:g<w1.heap.size:=by
   rw [hg]
   cases hbk:blk p with
   | none=>unfold Df;rw [hbk];show a<_;omega
   | some k=>unfold Df;rw [hbk];exact (h1.own.ge k hbk).2
  have hgw0:g<w.heap.size:=by
   rw [hg]
   cases hbk:blk p with
   | none=>unfold Df;rw [hbk];show a<_;have:=h.hB;omega
   | some k=>unfold Df;rw [hbk];exact (h.own.ge k hbk).2
  have xL:AA [a,g,g] aL=false:=Gn q4 (by omega)
  have xA:AA [a,g,g] a4=false:=Gn (by have:=h.hB;omega) (by omega)
  have hln:=h1.line
  repeat' (first|refine R1 ?_|(refine Q1 ?_;first|(refine Q2 (hu:=T.f33_0) ?_)|(refine Q3 (hu:=T.p3) ?_))|refine R2 ?_|(apply Za;exact rfl;all_goals (intro h;try (exfalso;omega)))|fail)
  refine Zf 1 [a,g,g] [0,1,2,3,4] mixed (by decide +kernel) ?_
  repeat' (refine Q1 ?_;first|(refine Q31 plL (hb:=hln) (hS:=xL) ?_)|(refine Q2 (hu:=T.f33_2) ?_)|refine Q31 T.p3 ?_)
  refine Q1 ?_;refine Q36 (hc:=EI hfit.1 hfit.2 (TabIs.ext hT (Ext.drew h1.ext))) ?_;rintro _ w3 ⟨rfl,hx3⟩;refine ⟨(by first|exact .inl rfl|exact .inr hx3.toS),?_⟩
  replace hx3:Ext w1 w3:=(Ext.drew Ext.rfl').trans hx3
  have h3:=h1.xt hx3
  skip
  refine Q1 ?_
  refine Q70 (hc:=by exact Eb (m:=58) (by decide) h3 (by rw [QE];simp only [List.length_cons,List.length_append] at hlen;omega)) ?_
  rintro _ w4' ⟨rfl,p4,c4,h4,x4⟩
  refine ⟨.inr (by rw [hg];exact x4),?_⟩
  have hA4:=x4.blk (hA1.ext hx3) (by rw [← hg];exact xA)
  repeat' (first|refine R1 ?_|refine R2 ?_|fail)
  refine Zk Tryz.results93 (vs:=[]) rfl ?_
  rw [Uf] at h4
  exact ⟨rfl,p4,c4,h4⟩
 ·have ew:wT 4 t=36 :: (Lib.itoa t.s.size++Bp++(t.s.data.toList++Bp)):=by simp [wT,BC,hk0]
  rw [ew] at hlen ⊢
  obtain ⟨g,hg⟩:∃g,g=Df p a:=⟨_,rfl⟩
  have hgB:g=a∨B≤g:=by
   rw [hg]
   cases hbk:blk p with
   | none=>left;unfold Df;rw [hbk];rfl
   | some k=>right;unfold Df;rw [hbk];exact (h1.own.ge k hbk).1
  have q1:=h1.h1
  have q2:=h1.h2
  have q4:=h1.h4
  have q5:=h1.hB
  have hgw:g<w1.heap.size:=by
   rw [hg]
   cases hbk:blk p with
   | none=>unfold Df;rw [hbk];show a<_;omega
   | some k=>unfold Df;rw [hbk];exact (h1.own.ge k hbk).2
  have hgw0:g<w.heap.size:=by
   rw [hg]
   cases hbk:blk p with
   | none=>unfold Df;rw [hbk];show a<_;have:=h.hB;omega
   | some k=>unfold Df;rw [hbk];exact (h.own.ge k hbk).2
  have xL:AA [a,g,g] aL=false:=Gn q4 (by omega)
  have xA:AA [a,g,g] a4=false:=Gn (by have:=h.hB;omega) (by omega)
  have hln:=h1.line
  repeat' (first|refine R1 ?_|(refine Q1 ?_;first|(refine Q2 (hu:=T.f33_0) ?_)|(refine Q3 (hu:=T.p3) ?_))|refine R2 ?_|(apply Za;exact rfl;all_goals (intro h;try (exfalso;omega)))|fail)
  refine Zf 1 [a,g,g] [0,1,2,3,4,5] mixed (by decide +kernel) ?_
  repeat' (refine Q1 ?_;first|(refine Q31 plL (hb:=hln) (hS:=xL) ?_)|(refine Q2 (hu:=T.f33_1) ?_)|refine Q31 T.p9 ?_|refine Q17 T.str9 ?_)
  refine Q1 ?_;refine Q36 (hc:=EI (by omega) (by omega) (TabIs.ext hT (Ext.drew h1.ext))) ?_;rintro _ w3 ⟨rfl,hx3⟩;refine ⟨(by first|exact .inl rfl|exact .inr hx3.toS),?_⟩
  replace hx3:Ext w1 w3:=(Ext.drew Ext.rfl').trans hx3
  have h3:=h1.xt hx3
  skip
  refine Q1 ?_
  refine Q70 (hc:=by exact Eb (m:=36) (by decide) h3 (by rw [QE];simp only [List.length_cons,List.length_append] at hlen;omega)) ?_
  rintro _ w4' ⟨rfl,p4,c4,h4,x4⟩
  refine ⟨.inr (by rw [hg];exact x4),?_⟩
  have hA4:=x4.blk (hA1.ext hx3) (by rw [← hg];exact xA)
  rw [Uf] at h4
  have hb:=h4.box
  have hO:=h4.own
  have hBB:=h4.hB
  have hss:t.s.data.toList.length=t.s.size:=by rw [Array.length_toList];rfl
  simp only [List.length_cons,List.length_append,hss,Bp,List.length_nil] at hlen
  repeat' (first|(refine Q1 ?_;first|(refine Q43 T.s40 T.str9 hO hBB (s:=t.s) (hlen:=by (simp only [List.length_append,List.length_cons,List.length_nil,Bp];omega)) (hmax:=by (simp only [List.length_append,List.length_cons,List.length_nil,Bp];omega)) ?_;intro p5 c5 w5 ha5)|(refine Q2 (hu:=T.f33_1) ?_)|(refine Q3 (hu:=by (first|exact T.p9|exact T.p40)) ?_))|refine R1 ?_|fail)
  have hb6:=h4.box.grown ha5.grown (fun e=>by have:=(h4.own.ge a e).1;have:=h4.h1;omega)
  refine Q1 ?_;refine Q5 T.z40 hb6 ?_;intro w6 hc6 hg6 hs6
  replace hc6:Blk w6.heap a 40 [.slice _ _ _]:=hc6
  obtain ⟨h6,x6⟩:=h4.app ha5 hc6 hg6
  have hb:=h6.box
  have hO:=h6.own
  have hBB:=h6.hB
  repeat' (first|(refine Q1 ?_;first|(refine Q43 T.s40 T.str9 hO hBB (s:=⟨#[13,10]⟩) (hlen:=by (simp only [List.length_append,List.length_cons,List.length_nil,hss,Bp];show (_+2) * _≤_;omega)) (hmax:=by (simp only [List.length_append,List.length_cons,List.length_nil,hss,Bp];show _+2≤_;omega)) ?_;intro p7 c7 w7 ha7)|(refine Q3 (hu:=T.p40) ?_))|refine R1 ?_|fail)
  have hb8:=h6.box.grown ha7.grown (fun e=>by have:=(h6.own.ge a e).1;have:=h6.h1;omega)
  refine Q1 ?_;refine Q5 T.z40 hb8 ?_;intro w8 hc8 hg8 hs8
  replace hc8:Blk w8.heap a 40 [.slice _ _ _]:=hc8
  obtain ⟨h8,x8⟩:=h6.app ha7 hc8 hg8
  have hb:=h8.box
  have hO:=h8.own
  have hBB:=h8.hB
  repeat' (first|refine R1 ?_|refine R2 ?_|fail)
  refine Zk Tryz.results93 (vs:=[]) rfl ?_
  have e0:bs++(36 :: (Lib.itoa t.s.size++Bp))++t.s.data.toList++(⟨#[13,10]⟩:ByteArray).data.toList=bs++(36 :: (Lib.itoa t.s.size++Bp++(t.s.data.toList++Bp))):=by simp [Bp]
  rw [e0] at h8
  exact ⟨rfl,p7,c7,h8⟩
 ·have ew:wT 4 t=36 :: ((⟨#[45,49]⟩:ByteArray).data.toList++Bp):=by simp [wT,BC,hk0]
  rw [ew] at hlen ⊢
  have hln:=h1.line
  repeat' (first|refine R1 ?_|(refine Q1 ?_;first|(refine Q3 (hu:=plL) (hb:=hln) ?_)|(refine Q2 (hu:=T.f33_0) ?_)|(refine Q3 (hu:=T.p3) ?_))|refine R2 ?_|(apply Za;exact rfl;all_goals (intro h;try (exfalso;omega)))|fail)
  refine Q1 ?_;refine Q22 (hc:=by exact Eb (m:=36) (s:=⟨#[45,49]⟩) (by decide) h1 (by show bs.length+2≤_;simp only [List.length_cons,List.length_append] at hlen;omega)) ?_;rintro _ w2 ⟨rfl,p2,c2,h2,x2⟩;refine Kc ?_
  repeat' (first|refine R1 ?_|refine R2 ?_|fail)
  refine Zk Tryz.results93 (vs:=[]) rfl ?_
  exact ⟨rfl,p2,c2,h2⟩
 ·exact absurd hk0 hne
theorem Qm {e:Nat} {p:Option Addr} {c:Nat} {rs:List Bg} {ts:List Rep} {w:World} (hC:Dr w.heap e p c rs ts) (hsm:∀t∈ts,Ef 5 t) (hk5:∀t∈ts,t.kind≠5) (hN:(wR ts).length≤1000000000) (hT:Pow w) :
  Ctr Tryz.prog 59 [.slice p rs.length c] w (fun v w'=>∃p' c',v=.slice p' (wR ts).length c'∧Sl w'.heap Ai p' c' (wR ts)∧Ext w w'):=by
 have n1:=hC.sl.bound
 have hll:=hC.len
 refine Ac Tryz.func59 Tryz.ntmps59 rfl rfl rfl ?_
 repeat' (refine R1 ?_)
 refine Q1 ?_;refine Q7 T.zero40 ?_;intro a1 w1 ha1 hA1 hx1 hs1
 replace hA1:Blk w1.heap a1 40 [.slice none 0 0]:=hA1
 repeat' (first|refine R1 ?_|refine R2 ?_|fail)
 refine Q1 ?_;refine Q7 zrL ?_;intro a2 w2 ha2 hA2 hx2 hs2
 replace hA1:=hA1.ext hx2
 skip
 refine Q1 ?_;refine Q5 szL hA2 (hm:=Nat.le_of_ble_eq_true rfl) (h1:=by (focus (simp [Value.cells,Value.oneCell']))) (hw:=.inl rfl) ?_;intro w3 hA3 hg3 hs3
 replace hA3:Blk w3.heap a2 208 [.func (.func 92) #[] #[.pointer (some (adr (bx a1) 0))]]:=hA3
 replace hA1:=hA1.grown hg3 (fun e=>by injection e;omega)
 have hx3:Ext w w3:=(hx1.trans hx2).own hg3 (fun k hk=>by injection hk;omega)
 repeat' (refine R1 ?_)
 refine Q1 ?_;refine Q7 zrP ?_;intro a4 w4 ha4 hA4 hx4 hs4
 replace hA1:=hA1.ext hx4
 replace hA3:=hA3.ext hx4
 repeat' (first|refine R1 ?_|refine R2 ?_|fail)
 refine Q1 ?_;refine Q5 szP hA4 (hm:=Nat.le_of_ble_eq_true rfl) (h1:=by (focus (simp [Value.cells,Value.oneCell']))) (hw:=.inl rfl) ?_;intro w5 hA5 hg5 hs5
 replace hA5:Blk w5.heap a4 209 [.func (.func 93) #[] #[.pointer (some (adr (bx a2) 0)),.pointer (some (adr (bx a1) 0)),.pointer (some (adr (bx a4) 0))]]:=hA5
 replace hA1:=hA1.grown hg5 (fun e=>by injection e;omega)
 replace hA3:=hA3.grown hg5 (fun e=>by injection e;omega)
 have hx5:Ext w w5:=(hx3.trans hx4).own hg5 (fun k hk=>by injection hk;omega)
 have h5:EO w w5 w5.heap.size a1 a2 a4 208 209 none 0 []:=⟨hx5,hA1,hA3,hA5,Own.nil _ _ _ _,by omega,by omega,by omega,by omega,by omega,by omega,Nat.le_refl _⟩
 repeat' (first|refine R1 ?_|(refine Q1 ?_;(refine Q6 (hu:=T.s31) ?_))|refine R2 ?_|fail)
 refine Zh (ι:=Nat × Option Addr × Nat) (fun y=>[(3,.pointer (some (adr (bx a1) 0))),(5,.pointer (some (adr (bx a4) 0))),(10,.slice p rs.length c),(11,.int .i64 (rs.length:Int)),(12,.int .i64 (y.1:Int))])
  (fun y w'=>EO w w' w5.heap.size a1 a2 a4 208 209 y.2.1 y.2.2 (wR (ts.take y.1))∧y.1≤rs.length) (fun y=>rs.length - y.1) (0,none,0) ⟨rfl,rfl,rfl,rfl,rfl,trivial⟩ ⟨h5,Nat.zero_le _⟩ ?_
 rintro ⟨i,p6,c6⟩ w6 ⟨h6,hi⟩
 simp only at h6 hi
 refine Zn [(3,.pointer (some (adr (bx a1) 0))),(5,.pointer (some (adr (bx a4) 0))),(10,.slice p rs.length c),(11,.int .i64 (rs.length:Int)),(12,.int .i64 (i:Int))] ⟨rfl,rfl,rfl,rfl,rfl,trivial⟩ ?_
 have hC6:=hC.ext h6.ext
 have hsl6:=hC6.sl
 by_cases hlt:i<rs.length
 ·obtain ⟨r',hr'⟩:=Aj hlt
  obtain ⟨t',ht'⟩:=Aj (xs:=ts) (k:=i) (by omega)
  have hst:=hsm t' (List.mem_of_getElem? ht')
  have hsn:=WL ht'
  have hle:=MK (fun t=>if Bu 4 t=true then wT 4 t else []) ts (i+1)
  have hle2:(wR (ts.take (i+1))).length≤(wR ts).length:=hle
  repeat' (first|(refine Q1 ?_;first|refine Q13 T.s31 ?_|refine Q14 T.a33 ?_)|refine R1 ?_|refine R2 ?_|(apply Za;exact rfl;all_goals (intro h;try (exfalso;omega)))|fail)
  refine Q1 ?_;refine Q7 T.zero33 ?_;intro a7 w7 ha7 hA7 hx7 hs7
  replace hsl6:=hsl6.ext hx7
  skip
  refine Q1 ?_;refine Q5 T.z33 hA7 ?_;intro w8 hA8 hg8 hs8
  replace hA8:Blk w8.heap a7 33 (Aq.enc r'):=hA8
  have hx68:Ext w6 w8:=hx7.own hg8 (fun k hk=>by injection hk;omega)
  have h8:=h6.xt hx68
  have hat:=(hC6.get i r' t' hr' ht').ext hx68
  repeat' (first|(refine Q1 ?_;refine Q11 T.a33 ?_)|refine R1 ?_|fail)
  refine Q1 ?_;refine Q4 (hc:=PU hst hat (hk5 t' (List.mem_of_getElem? ht'))) ?_;rintro _ w9 ⟨rfl,hx9⟩;refine Kc ?_
  replace hA8:=hA8.ext hx9
  have h9:=h8.xt hx9
  have hpt:=h9.put
  cases hrt:Bu 4 t' with
  | true =>
   rw [hrt,if_pos rfl] at hsn
   rw [hsn,List.length_append] at hle2
   repeat' (first|(refine Q1 ?_;first|(refine Q3 (hu:=plP) (hb:=hpt) ?_)|refine Q11 T.a33 ?_)|refine R1 ?_|refine R2 ?_|fail)
   refine Q1 ?_;refine Q22 (hc:=by exact Sv hT hrt (hk5 t' (List.mem_of_getElem? ht')) (hC.get i r' t' hr' ht') h9 (by omega)) ?_;rintro _ w10 ⟨rfl,p10,c10,h10⟩;refine Kc ?_
   repeat' (first|refine R1 ?_|refine R2 ?_|fail)
   exact Zc (i+1,p10,c10) ⟨rfl,rfl,rfl,rfl,rfl,trivial⟩ ⟨by simp only;rw [hsn];exact h10,by simp only;omega⟩ (by simp only;omega)
  | false =>
   rw [hrt,if_neg (by simp),List.append_nil] at hsn
   repeat' (first|refine R1 ?_|refine R2 ?_|fail)
   exact Zc (i+1,p6,c6) ⟨rfl,rfl,rfl,rfl,rfl,trivial⟩ ⟨by simp only;rw [hsn];exact h9,by simp only;omega⟩ (by simp only;omega)
 ·rw [List.take_of_length_le (by omega)] at h6
  have hb:=h6.box
  repeat' (first|refine R1 ?_|(refine Q1 ?_;(refine Q3 (hu:=T.p40) ?_))|refine R2 ?_|(apply Za;exact rfl;all_goals (intro h;try (exfalso;omega)))|fail)
  refine Kr Tryz.results59 ?_
  exact ⟨p6,c6,rfl,h6.own.sl,h6.ext⟩
structure Bs (W0:World) (ix:Nat) (g:Nat→Nat) (w:World):Prop where
 ext:Ext W0 w
 tag:∀k,k<W0.heap.size→g k=0
 ix:W0.heap.size≤ix
theorem Bs.stp {W0:World} {ix:Nat} {T:List Nat} {g g':Nat→Nat} {w w':World} (h:Bs W0 ix g w) (s:Stq ix T g g' w w') (h0:0 ∉ T):Bs W0 ix g' w' :=
 ⟨s.toE h.ext h.tag h.ix h0,fun k hk=>(s.tags k (Nat.lt_of_lt_of_le hk h.ext.size)).trans (h.tag k hk),h.ix⟩
def trR (R:Bg):Rep:=.mk R.kind R.s R.n []
structure Lf (R:Bg):Prop where
 leaf:R=Av R.kind R.s R.n
 right:Bu 4 (trR R)=true
 fits:AC R.n
 small:R.s.size≤2000
 kind:R.kind≠5
def Ed (R:Bg):List UInt8:=wT 4 (trR R)
theorem Ke {n:Int} (h:AC n):(Lib.itoa n).length≤20:=by rw [← QE];exact Ex h
theorem Te {t:Rep} (h1:t.s.size≤2000) (h2:AC t.n) (h5:t.l.length≤10):(BC t).length≤3000:=by
 have h2:=Ke h2
 have h3:(Lib.itoa (t.s.size:Int)).length≤20:=Ke (by unfold AC;omega)
 have h4:t.s.data.toList.length=t.s.size:=by rw [Array.length_toList];rfl
 have h6:(Lib.itoa (t.l.length:Int)).length≤20:=Ke (by unfold AC;omega)
 have h7:Bp.length=2:=rfl
 unfold BC
 repeat' split
 all_goals (simp only [List.length_cons,List.length_append,List.length_nil];omega)
theorem MV {R:Bg}:Ed R=BC (trR R):=by
 show BC (trR R)++(if (trR R).kind=5 then (trR R).l.flatMap (wT 3) else [])=_
 have:(if (trR R).kind=5 then (trR R).l.flatMap (wT 3) else [])=[]:=by split <;> rfl
 rw [this,List.append_nil]
theorem Fj {R:Bg} (h:Lf R):(Ed R).length≤3000:=by
 rw [MV]
 exact Te h.small h.fits (Nat.zero_le _)
theorem Lf.reps {R:Bg} (h:Lf R) {H:Array Obj} {p:Option Addr} {c:Nat} (hs:Sl H Aq p c [R]):Dr H 1 p c [R] [trR R]:=by
 refine ⟨hs,rfl,fun i r t hr ht=>?_⟩
 match i with
 | 0 =>
  injection hr with hr
  injection ht with ht
  subst hr ht
  have hm:(2000:Nat)≤maxLen:=by decide
  have hf:=h.fits
  have hsm:=h.small
  unfold AC at hf
  refine ⟨rfl,rfl,rfl,by rw [h.leaf];rfl,by show R.s.size≤maxLen;omega,by show _∧_;exact ⟨hf.1,hf.2⟩,[],?_,rfl,fun i r' t' h=>by simp at h⟩
  rw [h.leaf]
  refine ⟨⟨Nat.le_refl _,Nat.zero_le _,fun _=>rfl,fun a ha=>?_⟩,fun i x hi=>by simp at hi⟩
  cases ha
 | i+1=>simp at hr
theorem Lf.wr {R:Bg} (h:Lf R):wR [trR R]=Ed R:=by
 unfold wR Ed
 simp [h.right]
theorem SF (h:AV g w b ss cl rd qc none 0 [] #[]):Ctr Tryz.prog 41 [.pointer (some (adr (bx ss) 0))] w (fun v w'=>v=.bool false∧w=w'):=by
 refine Ac Tryz.func41 Tryz.ntmps41 rfl rfl rfl ?_
 repeat' (first|refine R1 ?_|(refine Q1 ?_;(refine Q4 (f:=57) (hc:=HY h (by simp)) ?_;rintro _ _ ⟨rfl,rfl⟩;refine Kc ?_))|refine R2 ?_|fail)
 refine Kr Tryz.results41 ?_
 exact ⟨rfl,rfl⟩
set_option maxRecDepth 20000 in
theorem UJ (hB:Bs W0 ix g w) (hT:Pow W0) (h:AV g w b ss cl rd qc none 0 [] #[.slice q2 l.length d2]) (h0U:0 ∉ U) (hbU:b ∉ U) (hrU:b+3 ∉ U) (hb0:b≠0)
  (hst:∀R g1 w1 g2 w2,Ψ R g1 w1→Stq ix [0,b] g1 g2 w1 w2→Ψ R g2 w2) (hLf:∀R g1 w1,Ψ R g1 w1→Lf R)
  (hDo:∀g1 w1,Stq ix [b] g g1 w w1→Ctr Tryz.prog 58 [.pointer (some (adr (bx cl) 0)),.slice q2 l.length d2] w1 (fun v w'=>∃R,v=.tuple #[.agg (Aq.enc R).toArray,.bool false]∧∃g',Stq ix U g1 g' w1 w'∧Ψ R g' w')) :
  Ctr Tryz.prog 41 [.pointer (some (adr (bx ss) 0))] w (fun v w'=>v=.bool true∧∃R g' po co,Stq ix (b :: U) g g' w w'∧AV g' w' b ss cl rd qc po co (Ed R) #[]∧Ψ R g' w'):=by
 have hb:=h.box.blk
 obtain ⟨s,r,hch⟩:=h.ch.ex
 refine Ac Tryz.func41 Tryz.ntmps41 rfl rfl rfl ?_
 repeat' (first|(refine ZV 0 rfl rfl ?_)|refine R1 ?_|(refine Q1 ?_;first|(refine Q4 (f:=57) (hc:=HY h (by simp)) ?_;rintro _ _ ⟨rfl,rfl⟩;refine Kc ?_)|(refine Q3 (t:=127) (hu:=T.p127) (hb:=hb) ?_)|(refine Q2 (hu:=T.f129_2) ?_))|refine R2 ?_|fail)
 refine ⟨_,_,Ik.recv rfl hch (by simp) QX rfl,?_⟩
 have hg1:=Cx.gr (w:=w) (c:=qc) (cap:=64) (buf:=(#[Value.slice q2 l.length d2]).extract 1 (#[Value.slice q2 l.length d2]).size) (s:=s) (r:=r+1)
 have hS1:=h.ch.stpG (T:=[b]) (ix:=ix) (buf':=(#[Value.slice q2 l.length d2]).extract 1 (#[Value.slice q2 l.length d2]).size) s (r+1) 0 (by simp)
 have hch1:=h.ch.set (buf':=(#[Value.slice q2 l.length d2]).extract 1 (#[Value.slice q2 l.length d2]).size) s (r+1) 0
 have hB1:=h.box.turn hg1 (fun e=>h.ch.neB h.box (by injection e)) 0
 have hR1:=h.rd.stp hS1 (by simp)
 generalize hw1:w.setChan qc 64 ((#[Value.slice q2 l.length d2]).extract 1 (#[Value.slice q2 l.length d2]).size) false s (r+1) false=w1 at *
 have hx1:(#[Value.slice q2 l.length d2]).extract 1 (#[Value.slice q2 l.length d2]).size=#[]:=by simp
 rw [hx1] at hch1
 have hb1:=hB1.blk
 repeat' (first|refine R1 ?_|(refine Q1 ?_;first|(refine Q3 (t:=125) (hu:=T.p125) (hb:=hb1) ?_)|(refine Q2 (hu:=T.f129_0) ?_))|refine R2 ?_|fail)
 refine Q1 ?_;refine Q4 (hc:=hDo _ _ hS1) ?_;rintro _ w2 ⟨R,rfl,g2,hS2,hΨ⟩;refine Kc ?_
 have hL:=hLf _ _ _ hΨ
 have hB2:=hB1.stp hS2 hbU
 have hch2:=hch1.stp hS2 hbU
 have hR2:=hR1.stp hS2 hrU
 repeat' (refine Q1 ?_;first|refine Q19 ?_|refine Q33 ?_)
 refine Q1 ?_;refine Q7 T.zero33 ?_;intro a4 w3 ha4 hA4 hx3 hs3
 skip
 refine Q1 ?_;refine Q5 T.z33 hA4 ?_;intro w4 hA4 hg4 hs4
 replace hA4:Blk w4.heap a4 33 (Aq.enc R):=hA4
 have hx24:Ext w2 w4:=hx3.own hg4 (fun k hk=>by injection hk;omega)
 have hb4:=hB2.blk.ext hx24
 have hK4:Bk (rt g2 w2 0) w4 0 a4 33 _:=Bk.new hA4 (by omega) (by unfold ixT;decide)
 have hBs4:Ext W0 w4:=(((hB.stp hS1 (by simp;exact fun e=>hb0 e.symm)).stp hS2 h0U).ext).trans hx24
 repeat' (refine R1 ?_)
 refine Zl 1 [] (.node [0,1,2,3,4] (.alt 5 (.leaf [6,7,8,9,10,11]) .stop)) mixed (by decide +kernel) ?_
 repeat' (first|refine R1 ?_|(refine Q1 ?_;first|(refine Q11 T.a33 (hb:=hA4) ?_)|(refine Q2 (hu:=T.f129_3) ?_)|(refine Q3 (hu:=T.p40) ?_))|(refine Zj ?_)|(refine Zp ?_)|(apply Zv)|refine R2 ?_|(exact Zq)|fail)
 all_goals
  refine Q1 ?_
  refine Q12 Aq R T.s31 ?_
  intro p5 w5 hp5 hs5 _ hx5 hz5
  have hwr:=Qm (hL.reps hs5) (fun t ht=>by simp at ht;subst ht;exact ⟨hL.small,fun x hx=>by cases hx⟩) (fun t ht=>by simp at ht;subst ht;exact hL.kind) (by rw [hL.wr];have:=Fj hL;omega) (FD hT ((hBs4.trans (Ext.drew Ext.rfl')).trans hx5))
  rw [hL.wr] at hwr
  have hx45:=(Ext.drew (Ext.rfl' (w:=w4))).trans hx5
  have hb5:=hb4.ext hx45
  repeat' (refine Q1 ?_;(refine Q4 (f:=59) (hc:=hwr) ?_;rintro _ w6 ⟨p6,c6,rfl,hs6,hx6⟩;refine Kc ?_;replace hb5:=hb5.ext (Kx hx6)))
 all_goals
  have hx46:=hx45.trans hx6
  have hB6:=(hB2.ext (hx24.trans hx46) 0)
  have hrow6:Rw (rt g2 w2 0) w6 b 5 Ai none 0 []:=Rw.nil (by unfold ixT;decide)
  repeat' (refine Q1 ?_;first|refine Q21 ?_|(refine Q16 T.s40 hrow6.own hs6 (hB:=Nat.zero_le _) (hlen:=by (have:=Fj hL;simp only [List.length_nil];omega)) (hmax:=by (have:=Fj hL;simp only [List.length_nil];omega)) ?_;intro p7 c7 w7 ha7;have hB7:=hB6.turn ha7.grown (fun e=>by cases e) b;have hb7:=hB7.blk)|(refine Q2 (hu:=T.f129_3) ?_))
  rw [List.nil_append] at ha7
  have hS7:=hrow6.appS (T:=[b]) (ix:=ix) ha7 (by simp)
  have hrow7:=hrow6.app ha7
  refine Q1 ?_;refine Q5 T.z40 hb7 ?_;intro w8 hb8 hg8 hs8
  replace hb8:Blk w8.heap ss 129 [.pointer (some (adr (bx cl) 0)),.pointer (some (adr (bx rd) 0)),.chan (some qc),.slice p7 (Ed R).length c7,.bool false,.bool false]:=hb8
  have hS8:=hB7.stpG (T:=[b]) (ix:=ix) hg8 0 (by simp)
  have hB8:=hB7.turned (u:=0) hb8
  have hrow8:=hrow7.turn hg8 (fun k hk e=>hrow7.neB hB7 (by decide) (by rw [hk];exact e.symm)) 0
  have hx26:=hx24.trans hx46
  have hch7:=(hch2.ext hx26 0).stp (ix:=ix) (T:=[]) (g':=rt (rt g2 w2 0) w6 b) ⟨hS7.os,hS7.tape,hS7.output,hS7.size,fun k hk _ _=>ha7.grown.block k hk (fun e=>by cases e),hS7.tags⟩ (by simp)
  have hch8:=hch7.turn hB7 hg8 0
  have hR8:=((hR2.ext hx26 0).stp hS7 (by simp)).stp hS8 (by simp)
  have hSx:Stq ix (b :: U) g2 (rt g2 w2 0) w2 w6:=Stq.of_ext hx26 0
  have hΨ8:=hst _ _ _ _ _ (hst _ _ _ _ _ (hst _ _ _ _ _ hΨ (Stq.of_ext hx26 0)) (hS7.mono (by simp))) (hS8.mono (by simp))
  repeat' (first|refine R1 ?_|refine R2 ?_|fail)
  refine Kr Tryz.results41 ?_
  exact ⟨rfl,R,_,p7,c7,((((hS1.mono (by simp)).trans (hS2.mono (fun t ht=>List.mem_cons_of_mem _ ht))).trans hSx).trans (hS7.mono (by simp))).trans (hS8.mono (by simp)),⟨hB8,hch8,hrow8,hR8⟩,hΨ8⟩
end Go.Proofs.YtkcolpfanmdmiaaGreatDoor
namespace Go.V
variable {l : List Oper}
variable {d : Option Nat} {g : Option (Nat × Bool)} {t t' u by_ c c2 : Nat} {p : Option Addr}
theorem Q99 {B:Nat} {m:Nat} {k:Nat} {xs:List UInt8} {ys:List UInt8} (hu:Ab P t u 1 by_) (hx:E.look x=some (.slice p m c)) (hy:E.look y=some (.slice q k c2)) (hm:m=ys.length) (hk:k=ys.length) (hown:Go.V.Own w B u Ai p c xs) (hl:xs.length=ys.length) (hne:0<ys.length) (hs:Sl w.heap Ai q c2 ys) (he:Am P dr.1 ⟨d,.call ⟨.builtin .copy,#[x,y],#[t,t']⟩,ty,pos,af,g⟩=true) (hw:writes dr.1 ⟨d,.call ⟨.builtin .copy,#[x,y],#[t,t']⟩,ty,pos,af,g⟩=true) (hd:Ah n d=true) (h:∀w',Go.V.Own w' B u Ai p c ys→w.grownBy w' (blk p)→w'.heap.size=w.heap.size→G P n ops dr l (E.put d (.int .i64 (ys.length:Nat))) w' K):G1 P n ops dr ⟨d,.call ⟨.builtin .copy,#[x,y],#[t,t']⟩,ty,pos,af,g⟩ l E w K:=by
 subst hm hk
 obtain ⟨gb,cur,rfl,hbg,hblk,hcl,hcm,hnc,htake⟩:=hown.toBlk (hown.some_of_pos (by omega))
 have hsz:Ai.sz=1:=rfl
 rw [hsz,Nat.mul_one] at hcl htake
 have hfl:(ys.flatMap Ai.enc).length=ys.length:=by rw [Az,hsz,Nat.mul_one]
 have hmin:min ys.length ys.length=ys.length:=Nat.min_self _
 refine Zz (gb:=gb) (o:=0) (T:=u) (cur:=cur) (ys.flatMap Ai.enc) hu hx hy rfl hblk (fun _=>?_) (by rw [hfl,hmin,Nat.mul_one]) (fun j v hv=>hs.flat j v hv) (by rw [hfl];omega) ?_ (by decide) he hw hd ?_
 ·cases q with
  | none=>have:=hs.ok.nul rfl;have:=hs.ok.le;omega
  | some a =>
   have h1:=hs.ok.spot a rfl (by have:=hs.ok.le;omega)
   obtain ⟨b,o,s⟩:=a
   simp only at h1
   subst h1
   exact ⟨b,o,rfl⟩
 ·intro v hv
  obtain ⟨b,_,hb⟩:=List.mem_flatMap.1 hv
  exact Ai.one b v hb
 ·intro w' hb hg hz
  rw [hmin]
  refine h w' (Own.ofBlk (cur:=cur.take 0++ys.flatMap Ai.enc++cur.drop (0+(ys.flatMap Ai.enc).length)) hbg hb ?_ hcm (by omega) ?_) hg hz
  ·rw [hsz,Nat.mul_one,hfl]
   simp only [List.length_append,List.length_take,List.length_drop,hfl]
   omega
  ·rw [hsz,Nat.mul_one,List.take_zero,List.nil_append,List.take_left' hfl]
end Go.V
namespace Go.Proofs.YtkcolpfanmdmiaaGreatDoor
open Go.V Go.RowKit Go.Conc
variable {rd : Nat}
theorem Om (_:AV g w b ss cl rd qc po co [] buf):Ctr Tryz.prog 63 [.pointer (some (adr (bx ss) 0)),.int .i64 ((0:Nat):Int)] w (fun v w'=>v=.slice none 0 0∧w=w'):=by
 refine Ac Tryz.func63 Tryz.ntmps63 rfl rfl rfl ?_
 repeat' (first|refine R1 ?_|(refine Q1 ?_;(refine Q15 Tryz.underlying87 (t:=87) ?_))|refine R2 ?_|fail)
 all_goals try (exfalso;omega)
 refine Kr Tryz.results63 ?_
 exact ⟨rfl,rfl⟩
theorem WO:Ag Tryz.prog 5 (.int .u8 0):=Ag.of (by kernel_rfl)
set_option maxRecDepth 20000 in
theorem Qg (hSe:AV g w b ss cl rd qc po co out buf) (hb0:b≠0) (hne:0<out.length) (hlt:out.length≤65536):Ctr Tryz.prog 63 [.pointer (some (adr (bx ss) 0)),.int .i64 (out.length:Int)] w (fun v w'=>∃p c g',v=.slice p out.length c∧Sl w'.heap Ai p c out∧Stq ix [b] g g' w w'∧AV g' w' b ss cl rd qc none 0 [] buf):=by
 have hb:=hSe.box.blk
 have hmin:min (out.length:Int) (out.length:Int)=(out.length:Int):=Int.min_self _
 refine Ac Tryz.func63 Tryz.ntmps63 rfl rfl rfl ?_
 repeat' (first|refine R1 ?_|(refine Q1 ?_;first|(refine Q15 Tryz.underlying87 (t:=87) ?_)|(refine Q2 (hu:=T.f129_3) ?_)|(refine Q3 (hu:=T.p40) ?_)|(refine Q6 (hu:=T.s40) ?_))|refine R2 ?_|(apply Za;exact rfl;all_goals (intro h;try (exfalso;omega)))|fail)
 all_goals try (exfalso;omega)
 refine Q1 ?_
 refine Q113 Ai 0 T.s40 rfl rfl hmin rfl WO rfl rfl rfl (m:=out.length) (h1:=by omega) (h2:=by omega) ?_
 intro p1 w1 hO1 hx1 hz1
 have hB1:=hSe.box.ext hx1 0
 have hb1:=hB1.blk
 have hrow1:=hSe.row.ext hx1 0
 have hR0:Rw (rt g w 0) w1 0 5 Ai p1 out.length (List.replicate out.length 0):=Rw.new hO1 (Nat.le_refl _) (by unfold ixT;decide)
 repeat' (first|refine R1 ?_|(refine Q1 ?_;first|(refine Q99 T.s40 rfl rfl rfl rfl hO1 List.length_replicate hne hrow1.sl rfl rfl rfl ?_;intro w2 hO2 hg2 hz2)|(refine Q2 (hu:=T.f129_3) ?_)|(refine Q3 (hu:=T.p40) ?_))|refine R2 ?_|fail)
 have n1:blk p1≠some ss:=fun e=>by have:=(hO1.ge ss e).1;have:=hSe.box.lt;omega
 have hB2:=hB1.turn hg2 n1 0
 have hrow2:=hrow1.turn hg2 (fun k hk e=>by have:=(hO1.ge k e).1;have:=hSe.row.lt hk;omega) 0
 have hb2:=hB2.blk
 have hS2:=hR0.stpG (T:=[0]) (ix:=ix) hg2 0 (by simp)
 have hR2:=hR0.turned (u:=0) (hO2.base (Nat.zero_le _))
 repeat' (refine Q1 ?_;first|refine Q19 ?_|refine Q21 ?_|(refine Q18 T.s40 hrow2.sl.ok (q:=out.length) (hj:=hmin) (hq:=Nat.le_refl _) ?_)|(refine Q2 (hu:=T.f129_3) ?_)|(refine Q3 (hu:=T.p40) ?_))
 refine Q1 ?_;refine Q5 T.z40 hb2 ?_;intro w3 hb3 hg3 hs3
 replace hb3:Blk w3.heap ss 129 [.pointer (some (adr (bx cl) 0)),.pointer (some (adr (bx rd) 0)),.chan (some qc),.slice (AP po co out.length 1) (out.length - out.length) (co - out.length),.bool false,.bool false]:=hb3
 rw [Nat.sub_self] at hb3
 have hS3:=hB2.stpG (T:=[b]) (ix:=ix) hg3 0 (by simp)
 have hB3:=hB2.turned (u:=0) hb3
 repeat' (first|refine R1 ?_|(refine Q1 ?_;first|(refine Q2 (hu:=T.f129_3) ?_)|(refine Q3 (hu:=T.p40) ?_)|(refine Q6 (hu:=T.s40) ?_))|refine R2 ?_|fail)
 all_goals try (exfalso;omega)
 refine Q1 ?_;refine Q5 T.z40 hb3 ?_;intro w4 hb4 hg4 hs4
 replace hb4:Blk w4.heap ss 129 [.pointer (some (adr (bx cl) 0)),.pointer (some (adr (bx rd) 0)),.chan (some qc),.slice none 0 0,.bool false,.bool false]:=hb4
 have hS4:=hB3.stpG (T:=[b]) (ix:=ix) hg4 0 (by simp)
 have hB4:=hB3.turned (u:=0) hb4
 repeat' (first|refine R1 ?_|refine R2 ?_|fail)
 refine Kr Tryz.results63 ?_
 have hS02:Stq ix [b] g _ w w2:=⟨hS2.os.trans hx1.os,hS2.tape.trans hx1.tape,hS2.output.trans hx1.output,Nat.le_trans hx1.size hS2.size,fun k hk _ _=>(hg2.block k (Nat.lt_of_lt_of_le hk hx1.size) (fun e=>by have:=(hO1.ge k e.symm).1;omega)).trans (hx1.block k hk),fun k hk=>(AY (t:=0) (Nat.lt_of_lt_of_le hk hx1.size)).trans (AY (t:=0) hk)⟩
 have hch1:=(hSe.ch.ext hx1 0)
 have hch2:Cx (rt (rt g w 0) w1 0) w2 b qc 64 buf:=hch1.turnR hR0 hg2 0
 have hch4:=(hch2.turn hB2 hg3 0).turn hB3 hg4 0
 have hrd4:=((hSe.rd.stp hS02 (by simp)).stp hS3 (by simp)).stp hS4 (by simp)
 have hR4:=(hR2.stp hS3 (by simp;exact fun e=>hb0 e.symm)).stp hS4 (by simp;exact fun e=>hb0 e.symm)
 exact ⟨p1,out.length,_,rfl,hR4.sl,(hS02.trans hS3).trans hS4,⟨hB4,hch4,Rw.nil (by unfold ixT;decide),hrd4⟩⟩
theorem Ue:Tryz.prog.info? 61=some (Tryz.prog.types[61]!):=by kernel_rfl
theorem Vt (cl rd qc:Nat) (w:World):(Instr.build 129 [(0,Value.pointer (some (adr (bx cl) 0))),(1,Value.pointer (some (adr (bx rd) 0))),(2,Value.chan (some qc))].toArray).run Tryz.prog w=.ok (.agg #[.pointer (some (adr (bx cl) 0)),.pointer (some (adr (bx rd) 0)),.chan (some qc),.slice none 0 0,.bool false,.bool false]) w:=by kernel_rfl
theorem QO {w:World} {c b t:Nat} {o:Obj} {cs:List Value} (h:w.heap[c]?=some o) (ho:o.isCells=false) (k:Blk w.heap b t cs):c≠b:=BG h k ho
theorem Ol {w w' Wr:World} {m:Nat} (_:Ext w w') (hC:Blk w'.heap cl 190 [.pointer (some (adr (bx m) 0)),.pointer none]) (hR:Ba Wr w' rd (rd+1) none 0 [] 0 none 0 rs0 0) (hS:Blk w'.heap ss 129 [.pointer (some (adr (bx cl) 0)),.pointer (some (adr (bx rd) 0)),.chan (some qc),.slice none 0 0,.bool false,.bool false]) (hQ:w'.heap[qc]?=some (.chan 64 #[] false 0 0 false))
  (h1:w.heap.size≤cl) (h2:w.heap.size≤rd) (h3:w.heap.size≤ss) (h4:w.heap.size≤qc) (_:0<b):∃g',(∀k,k<w.heap.size→g' k=g k)∧AV g' w' b ss cl rd qc none 0 [] #[]∧Bk g' w' (b+4) cl 190 [.pointer (some (adr (bx m) 0)),.pointer none]:=by
 have n1:=BB hC hR.blk (by decide)
 have n2:=BB hS hR.blk (by decide)
 have n3:=BB hS hC (by decide)
 have n4:=QO hQ rfl hR.blk
 have n5:=QO hQ rfl hC
 obtain ⟨g',hg'⟩:∃g':Nat→Nat,g'=fun k=>if k<w.heap.size then g k else if k=rd then b+3 else if k=cl then b+4 else b:=⟨_,rfl⟩
 refine ⟨g',fun k hk=>by rw [hg'];simp only [if_pos hk],⟨⟨hS,?_,by unfold ixT;decide⟩,⟨⟨0,0,hQ⟩,?_⟩,Rw.nil (by unfold ixT;decide),RdA.of hR (fun k hk=>?_)⟩,⟨hC,?_,by unfold ixT;decide⟩⟩
 ·rw [hg'];simp only;rw [if_neg (by omega),if_neg n2,if_neg n3]
 ·rw [hg'];simp only;rw [if_neg (by omega),if_neg n4,if_neg n5]
 ·rcases hk with e|e|e
  ·subst e;rw [hg'];simp only;rw [if_neg (by omega)];simp
  ·cases e
  ·cases e
 ·rw [hg'];simp only;rw [if_neg (by omega),if_neg n1];simp
set_option maxRecDepth 20000 in
theorem Ww {m:Nat} (hb:0<b):Ctr Tryz.prog 39 [.pointer (some (adr (bx m) 0))] w (fun v w'=>∃ss cl rd qc g',v=.tuple #[.pointer (some (adr (bx ss) 0)),.int .i64 0]∧w.heap.size≤rd∧w.heap.size≤ss∧Ext w w'∧(∀k,k<w.heap.size→g' k=g k)∧AV g' w' b ss cl rd qc none 0 [] #[]∧Bk g' w' (b+4) cl 190 [.pointer (some (adr (bx m) 0)),.pointer none]):=by
 refine Ac Tryz.func39 Tryz.ntmps39 rfl rfl rfl ?_
 repeat' (first|refine R1 ?_|(refine Q1 ?_;first|(refine Q4 (f:=54) (hc:=WC) ?_;rintro _ w1 ⟨cl,rfl,hcl,hC1,hx1⟩;refine Kc ?_)|(refine Q4 (f:=55) (hc:=NY) ?_;rintro _ w2 ⟨hx2,rd,rfl,hR2⟩;refine Kc ?_;replace hC1:=hC1.ext (Kx hx2)))|refine R2 ?_|refine Zl 1 [] (.node [0] (.alt 1 (.leaf [2,3,4,5]) (.alt 2 (.leaf [1,3,4,5]) .stop))) mixed (by decide +kernel) ?_|refine Q129 ?_|refine Q130 ?_|apply Zv|exact Zq|fail)
 all_goals try (exfalso;omega)
 all_goals
  refine Q1 ?_
  refine Q77 Tryz.underlying127 Ue ?_
  intro w3 hch3 hx3 hz3
  first|replace hC1:=hC1.ext hx3|replace hC1:=hC1.ext ((Ext.drew Ext.rfl').trans hx3)
  repeat' (first|(refine Q1 ?_;first|(refine Q4 (f:=55) (hc:=NY) ?_;rintro _ w2 ⟨hx2,rd,rfl,hR2⟩;refine Kc ?_;replace hC1:=hC1.ext (Kx hx2))|(apply Zi;exact rfl;exact Vt _ _ _;exact rfl))|apply Zu|(refine Zj ?_))
  refine Q1 ?_;refine Q8 ?_;intro a1 w4 ha4 hA4 hx4 hs4
  replace hA4:Blk w4.heap a1 129 [.pointer (some (adr (bx cl) 0)),.pointer (some (adr (bx rd) 0)),.chan (some _),.slice none 0 0,.bool false,.bool false]:=hA4
  repeat' (first|refine R1 ?_|refine R2 ?_|fail)
  refine Kr Tryz.results39 ?_
 ·have hx24:=hx3.trans hx4
  have hx14:Ext w1 w4:=((Ext.drew Ext.rfl').trans hx2).trans hx24
  have z1:=hx1.size
  have z2:=hx2.size
  have zd:w1.drew.heap.size=w1.heap.size:=rfl
  have zr:=hR2.h0
  obtain ⟨g',k1,k2,k3⟩:=Ol (g:=g) (b:=b) (hx1.trans hx14) (hC1.ext hx4) (hR2.xt hx24) hA4 ((hx4.block _ (by omega)).trans hch3) hcl (by omega) (by omega) (by omega) hb
  exact ⟨a1,cl,rd,_,g',rfl,by omega,by omega,hx1.trans hx14,k1,k2,k3⟩
 ·have hx14:Ext w1 w4:=(((Ext.drew Ext.rfl').trans hx3).trans hx2).trans hx4
  have z1:=hx1.size
  have z2:=hx2.size
  have zd:w1.drew.heap.size=w1.heap.size:=rfl
  have zr:=hR2.h0
  obtain ⟨g',k1,k2,k3⟩:=Ol (g:=g) (b:=b) (hx1.trans hx14) (hC1.ext hx4) (hR2.xt hx4) hA4 (((hx2.trans hx4).block _ (by omega)).trans hch3) hcl (by omega) (by omega) (by omega) hb
  exact ⟨a1,cl,rd,_,g',rfl,by omega,by omega,hx1.trans hx14,k1,k2,k3⟩
attribute [local irreducible] PlainT
structure Cn where
 (b ss cl rd qc ln:Nat)
structure Ct (g:Nat→Nat) (w:World) (x:Cn) (n:Nat) (outs:List UInt8) (q:Bool):Prop where
 ex:∃(life:Int) (pi:Option Addr) (ci:Nat) (ins:List UInt8) (po:Option Addr) (co:Nat),Bk g w (x.b+1) x.ln 91 [.pointer (some (adr (bx x.ss) 0)),.int .i64 life,.slice pi ins.length ci,.slice po outs.length co,.bool false,.bool q,.bool false]∧Rw g w (x.b+1) 5 Ai pi ci ins∧Rw g w (x.b+2) 5 Ai po co outs∧ins.length≤n * 1000000∧outs.length≤n * 3000
theorem Ct.stp {ix:Nat} {T:List Nat} {g g':Nat→Nat} {w w':World} {x:Cn} {n:Nat} {outs:List UInt8} {q:Bool} (h:Ct g w x n outs q) (s:Stq ix T g g' w w') (h1:x.b+1 ∉ T) (h2:x.b+2 ∉ T):Ct g' w' x n outs q:=by
 obtain ⟨l,pi,ci,ins,po,co,k1,k2,k3,k4,k5⟩:=h.ex
 exact ⟨l,pi,ci,ins,po,co,k1.stp s h1,k2.stp s h1,k3.stp s h2,k4,k5⟩
theorem Ct.ext {g:Nat→Nat} {w w':World} {x:Cn} {n:Nat} {outs:List UInt8} {q:Bool} (h:Ct g w x n outs q) (hx:Ext w w') (u:Nat):Ct (rt g w u) w' x n outs q:=h.stp (ix:=0) (T:=[]) (Stq.of_ext hx u) (by simp) (by simp)
theorem Ct.up {g:Nat→Nat} {w:World} {x:Cn} {n:Nat} {outs:List UInt8} {q:Bool} (h:Ct g w x n outs q):Ct g w x (n+1) outs q:=by
 obtain ⟨l,pi,ci,ins,po,co,k1,k2,k3,k4,k5⟩:=h.ex
 exact ⟨l,pi,ci,ins,po,co,k1,k2,k3,Nat.le_trans k4 (Nat.mul_le_mul_right _ (Nat.le_succ n)),Nat.le_trans k5 (Nat.mul_le_mul_right _ (Nat.le_succ n))⟩
structure Srv (g:Nat→Nat) (w:World) (sb m kp dk:Nat) (slot log clk:Int) (lasts:List Int) (cs:List Cn) (n:Nat):Prop where
 ex:∃(lf tq:Nat) (lp:Option Addr) (lc:Nat) (cp:Option Addr) (cc:Nat) (buf:Array Value),Bk g w 8 sb 72 [.int .i64 slot,.int .i64 log,.pointer (some (adr (bx dk) 0)),.int .i64 clk,.slice lp lasts.length lc,.slice cp (cs.map (·.ln)).length cc,.pointer (some (adr (bx lf) 0))]∧Rw g w 8 3 He lp lc lasts∧Rw g w 8 75 ePt cp cc (cs.map (·.ln))∧Bk g w 8 lf 82 [.pointer (some (adr (bx m) 0)),.pointer (some (adr (bx kp) 0)),.int .i64 (cs.length:Int),.chan (some tq)]∧Cx g w 8 tq 256 buf∧buf.size≤n
theorem Srv.stp {ix:Nat} {T:List Nat} {g g':Nat→Nat} {w w':World} {sb m kp dk n:Nat} {slot log clk:Int} {lasts:List Int} {cs:List Cn} (h:Srv g w sb m kp dk slot log clk lasts cs n) (s:Stq ix T g g' w w') (h8:8 ∉ T):Srv g' w' sb m kp dk slot log clk lasts cs n:=by
 obtain ⟨lf,tq,lp,lc,cp,cc,buf,k1,k2,k3,k4,k5,k6⟩:=h.ex
 exact ⟨lf,tq,lp,lc,cp,cc,buf,k1.stp s h8,k2.stp s h8,k3.stp s h8,k4.stp s h8,k5.stp s h8,k6⟩
theorem Srv.ext {g:Nat→Nat} {w w':World} {sb m kp dk n:Nat} {slot log clk:Int} {lasts:List Int} {cs:List Cn} (h:Srv g w sb m kp dk slot log clk lasts cs n) (hx:Ext w w') (u:Nat):Srv (rt g w u) w' sb m kp dk slot log clk lasts cs n:=h.stp (ix:=0) (T:=[]) (Stq.of_ext hx u) (by simp)
theorem Srv.up {g:Nat→Nat} {w:World} {sb m kp dk n:Nat} {slot log clk:Int} {lasts:List Int} {cs:List Cn} (h:Srv g w sb m kp dk slot log clk lasts cs n):Srv g w sb m kp dk slot log clk lasts cs (n+1):=by
 obtain ⟨lf,tq,lp,lc,cp,cc,buf,k1,k2,k3,k4,k5,k6⟩:=h.ex
 exact ⟨lf,tq,lp,lc,cp,cc,buf,k1,k2,k3,k4,k5,by omega⟩
theorem T.p80:PlainT Tryz.prog 80:=PlainT.of Tryz.underlying80 rfl
variable {cs : List Cn} {x : Cn} {q : Bool}
set_option maxRecDepth 20000 in
theorem IC (h:Srv g w sb m kp dk slot log clk lasts cs n):Ctr Tryz.prog 14 [.pointer (some (adr (bx sb) 0))] w (fun v w'=>v=.pointer (some (adr (bx m) 0))∧w=w'):=by
 obtain ⟨lf,tq,lp,lc,cp,cc,buf,k1,k2,k3,k4,k5,k6⟩:=h.ex
 have b1:=k1.blk
 have b4:=k4.blk
 refine Ac Tryz.func14 Tryz.ntmps14 rfl rfl rfl ?_
 repeat' (first|refine R1 ?_|(refine Q1 ?_;first|(refine Q15 Tryz.underlying37 (t:=37) ?_)|(refine Q15 Tryz.underlying70 (t:=70) ?_)|(refine Q2 (hu:=by (first|exact T.f72_5|exact T.f82_0)) ?_)|(refine Q3 (hu:=by (first|exact T.p70|exact T.p46)) ?_))|refine R2 ?_|fail)
 all_goals try (exfalso;simp only at *;omega)
 refine Kr Tryz.results14 ?_
 exact ⟨rfl,rfl⟩
set_option maxRecDepth 20000 in
theorem KC (h:Srv g w sb m kp dk slot log clk lasts cs n) (hi:cs[i]?=some x) (hn:cs.length≤256) (hL:Ct g w x n outs q):Ctr Tryz.prog 25 [.pointer (some (adr (bx sb) 0)),.int .i64 (i:Int)] w (fun v w'=>v=.pointer (some (adr (bx x.ln) 0))∧Ext w w'):=by
 obtain ⟨lf,tq,lp,lc,cp,cc,buf,k1,k2,k3,k4,k5,k6⟩:=h.ex
 have b1:=k1.blk
 obtain ⟨life,pi,ci,ins,po,co,l1,-⟩:=hL.ex
 have bl:=l1.blk
 have hs:=k3.sl
 have hlt:i<cs.length:=(List.getElem?_eq_some_iff.1 hi).1
 have hi':(cs.map (·.ln))[i]?=some x.ln:=by rw [List.getElem?_map,hi];rfl
 have hz:((cs.map (·.ln)).length:Int)≠0:=by rw [List.length_map];omega
 have hlen:(cs.map (·.ln)).length=cs.length:=List.length_map _
 have e1:(i:Int).tmod ((cs.map (·.ln)).length:Int)=(i:Int):=by rw [hlen];exact Int.tmod_eq_of_lt (by omega) (by omega)
 have e2:((i:Int)+((cs.map (·.ln)).length:Int)).tmod ((cs.map (·.ln)).length:Int)=(i:Int):=by rw [hlen,Int.tmod_eq_emod_of_nonneg (by omega),Int.add_emod_right];exact Int.emod_eq_of_lt (by omega) (by omega)
 have e3:((i:Int).tmod ((cs.map (·.ln)).length:Int)+((cs.map (·.ln)).length:Int)).tmod ((cs.map (·.ln)).length:Int)=(i:Int):=by rw [e1];exact e2
 have hlt':i<(cs.map (·.ln)).length:=by omega
 refine Ac Tryz.func25 Tryz.ntmps25 rfl rfl rfl ?_
 repeat' (first|refine R1 ?_|(refine Q1 ?_;first|(refine Q10 T.s69 hs.ok (q:=i) (hj:=e3) (h1:=hlt') ?_)|(refine Q9 T.p75 (q:=i) (e:=ePt) (hs:=hs) (hq:=hi') ?_)|(refine Q2 (hu:=by (first|exact T.f72_4|exact T.f91_3)) ?_)|(refine Q3 (hu:=by (first|exact T.p69|exact T.p4)) ?_)|(refine Q6 (hu:=T.s69) ?_))|refine R2 ?_|(apply Za;exact rfl;all_goals (intro h;try (exfalso;omega)))|refine Zf 1 [] [0,1,2,3,4,5,6,7,8,9,10,11,12,13] mixed (by decide +kernel) ?_|fail)
 all_goals try (exfalso;simp only at *;omega)
 refine Kr Tryz.results25 ?_
 exact ⟨rfl,Ext.drew Ext.rfl'⟩
theorem Wx (hSe:AV g w b ss cl rd qc po co out buf) (hb0:b≠0) (hn:out=[]→po=none∧co=0) (hlt:out.length≤65536):Ctr Tryz.prog 63 [.pointer (some (adr (bx ss) 0)),.int .i64 (out.length:Int)] w (fun v w'=>∃p c g',v=.slice p out.length c∧Sl w'.heap Ai p c out∧Stq ix [b] g g' w w'∧AV g' w' b ss cl rd qc none 0 [] buf):=by
 by_cases h:out=[]
 ·obtain ⟨rfl,rfl⟩:=hn h
  subst h
  refine (Om hSe).mono ?_
  rintro v w' ⟨rfl,rfl⟩
  exact ⟨none,0,g,rfl,hSe.row.sl,Stq.rfl',hSe⟩
 ·exact Qg hSe hb0 (List.length_pos_iff.2 h) hlt
theorem WP:Ag Tryz.prog 75 (.pointer none):=Ag.of (by kernel_rfl)
set_option maxRecDepth 20000 in
theorem Ga (h:Srv g w sb m kp dk slot log clk lasts cs n) (hL:Ct g w x n outs q) (hSe:AV g w x.b x.ss x.cl x.rd x.qc po co out buf) (h8:8<x.b) (hnil:out=[]→po=none∧co=0) (hlt:out.length≤3000) (hn:n≤200) :
  Ctr Tryz.prog 43 [.pointer (some (adr (bx sb) 0)),.pointer (some (adr (bx x.ln) 0))] w (fun _ w'=>∃g' q',Stq ix [8,x.b,x.b+1,x.b+2] g g' w w'∧Srv g' w' sb m kp dk slot log clk lasts cs (n+1)∧Ct g' w' x (n+1) (outs++out) q'∧AV g' w' x.b x.ss x.cl x.rd x.qc none 0 [] buf):=by
 obtain ⟨life,pi,ci,ins,pq,cq,l1,l2,l3,l4,l5⟩:=hL.ex
 have bl:=l1.blk
 refine Ac Tryz.func43 Tryz.ntmps43 rfl rfl rfl ?_
 repeat' (first|refine R1 ?_|(refine Q1 ?_;first|(refine Q4 (f:=62) (hc:=Oo hSe) ?_;rintro _ w1 ⟨rfl,hx1⟩;refine Kc ?_)|(refine Q2 (hu:=T.f91_0) ?_)|(refine Q3 (hu:=T.p87) ?_))|refine R2 ?_|fail)
 have hx1:=hx1.trans (Ext.drew Ext.rfl')
 have l1:=l1.ext hx1 0
 have l2:=l2.ext hx1 0
 have l3:=l3.ext hx1 0
 have hSe:=hSe.ext hx1 0
 have h:=h.ext hx1 0
 have bl1:=l1.blk
 refine Zl 2 [] (.node [0,1,2,3,4,6,7,8,10] (.alt 5 (.node [] (.alt 9 (.leaf [11,12,13,14,15,16]) .stop)) (.alt 9 (.node [] (.alt 5 (.leaf [11,12,13,14,15,16]) (.alt 11 (.leaf [5,12,13,14,15,16]) .stop))) .stop))) mixed (by decide +kernel) ?_
 repeat' (first|refine R1 ?_|(refine Q1 ?_;first|(refine Q2 (hu:=by (first|exact T.f91_0|exact T.f91_1|exact T.f89_2)) ?_)|(refine Q3 (hu:=by (first|exact T.p87|exact T.p40)) ?_))|(refine Zj ?_)|(refine Zp ?_)|(apply Zv)|refine R2 ?_|(exact Zq)|fail)
 all_goals
  refine Q1 ?_;refine Q4 (hc:=Wx (ix:=ix) hSe (by omega) hnil (by omega)) ?_;rintro _ w2 ⟨p2,c2,g2,rfl,hs2,hS2,hSe2⟩;refine Kc ?_
  have l1:=l1.stp hS2 (by simp)
  have l2:=l2.stp hS2 (by simp)
  have l3:=l3.stp hS2 (by simp)
  have h:=h.stp hS2 (by simp;omega)
  have bl2:=l1.blk
  have o3:=l3.own
  have hl0:n * 3000≤200 * 3000:=Nat.mul_le_mul_right _ hn
  repeat' (first|(refine Q1 ?_;first|(refine Q16 T.s40 o3 hs2 (hB:=Nat.zero_le _) (hlen:=by (omega)) (hmax:=by (omega)) ?_;intro p3 c3 w3 ha3)|(refine Q2 (hu:=by (first|exact T.f91_1|exact T.f89_2)) ?_)|(refine Q3 (hu:=T.p40) ?_))|refine R1 ?_|(refine Zj ?_)|refine R2 ?_|fail)
  have hS3:=l3.appS (T:=[x.b+2]) (ix:=ix) ha3 (by simp)
  have r3:=l3.app ha3
  have l1:=l1.stp hS3 (by simp)
  have l2:=l2.stp hS3 (by simp)
  have h:=h.stp hS3 (by simp;omega)
  have hSe2:=hSe2.stp hS3 (by simp) (by simp)
  have bl3:=l1.blk
  skip
  refine Q1 ?_;refine Q5 T.z40 bl3 ?_;intro w4 hb4 hg4 hs4
  replace hb4:Blk w4.heap x.ln 91 [.pointer (some (adr (bx x.ss) 0)),.int .i64 life,.slice pi ins.length ci,.slice p3 (outs++out).length c3,.bool false,.bool q,.bool false]:=hb4
  have hS4:=l1.stpG (T:=[x.b+1]) (ix:=ix) hg4 0 (by simp)
  have l2:=l2.turn hg4 (fun k hk e=>l2.neB l1 (by decide) (by rw [hk];exact e.symm)) 0
  have r3:=r3.stp hS4 (by simp)
  have h:=h.stp hS4 (by simp;omega)
  have hSe2:=hSe2.stp hS4 (by simp) (by simp)
  have l1:=l1.turned (u:=0) hb4
  have bl4:=l1.blk
  have hSS:Stq ix [8,x.b,x.b+1,x.b+2] g _ w w4:=(((Stq.of_ext hx1 0).trans (hS2.mono (by simp))).trans (hS3.mono (by simp))).trans (hS4.mono (by simp))
  have hlen:(outs++out).length≤(n+1) * 3000:=by rw [List.length_append,Nat.succ_mul];omega
  have hin:ins.length≤(n+1) * 1000000:=Nat.le_trans l4 (Nat.mul_le_mul_right _ (Nat.le_succ n))
  have hVu:=h.up
  obtain ⟨lf,tq,lp,lc,cp,cc,bf,k1,k2,k3,k4,k5,k6⟩:=h.ex
  have bb1:=k1.blk
  have bb4:=k4.blk
  obtain ⟨s,r,hch⟩:=k5.ex
  repeat' (first|(refine ZV 0 rfl rfl ?_)|refine R1 ?_|(refine Q1 ?_;first|(refine Q4 (f:=57) (hc:=HY hSe2 (by simp)) ?_;rintro _ _ ⟨rfl,rfl⟩;refine Kc ?_)|(refine Q3 (t:=80) (hu:=T.p80) (hb:=bb4) ?_)|(refine Q2 (hu:=by (first|exact T.f91_0|exact T.f91_2|exact T.f72_5|exact T.f82_3)) ?_)|(refine Q3 (hu:=by (first|exact T.p87|exact T.p4|exact T.p70)) ?_))|refine R2 ?_|(apply Za;exact rfl;all_goals (intro h;try (exfalso;omega)))|((fail_if_success (refine Q1 ?_));apply ZW;exact rfl;exact rfl;all_goals intro h)|fail)
 all_goals try (refine Ze Tryz.results43 (vs:=[]) rfl ?_;exact ⟨_,_,hSS,hVu,⟨life,pi,ci,ins,p3,c3,l1,l2,r3,hin,hlen⟩,hSe2⟩)
 all_goals
  refine ⟨_,_,Ik.send rfl rfl hch (by omega) WP,?_⟩
  have hS5:=k5.stpG (T:=[8]) (ix:=ix) (buf':=bf.push (.pointer (some (adr (bx x.ln) 0)))) (s+1) r 0 (by simp)
  have hg5:=Cx.gr (w:=w4) (c:=tq) (cap:=256) (buf:=bf.push (.pointer (some (adr (bx x.ln) 0)))) (s:=s+1) (r:=r)
  have k1:=k1.turn hg5 (fun e=>k5.neB k1 (by injection e)) 0
  have k2:=k2.turn hg5 (k5.neR k2) 0
  have k3:=k3.turn hg5 (k5.neR k3) 0
  have k4:=k4.turn hg5 (fun e=>k5.neB k4 (by injection e)) 0
  have k5:=k5.set (buf':=bf.push (.pointer (some (adr (bx x.ln) 0)))) (s+1) r 0
  have l1:=l1.stp hS5 (by simp;omega)
  have l2:=l2.stp hS5 (by simp;omega)
  have r3:=r3.stp hS5 (by simp;omega)
  have hSe2:=hSe2.stp hS5 (by simp;omega) (by simp;omega)
  have bl5:=l1.blk
  repeat' (first|refine R1 ?_|(refine Q1 ?_;(refine Q2 (hu:=T.f91_2) ?_))|refine R2 ?_|fail)
  refine Q1 ?_;refine Q5 T.z4 bl5 ?_;intro w6 hb6 hg6 hs6
  replace hb6:Blk w6.heap x.ln 91 [.pointer (some (adr (bx x.ss) 0)),.int .i64 life,.slice pi ins.length ci,.slice p3 (outs++out).length c3,.bool false,.bool true,.bool false]:=hb6
  have hS6:=l1.stpG (T:=[x.b+1]) (ix:=ix) hg6 0 (by simp)
  have l2:=l2.turn hg6 (fun k hk e=>l2.neB l1 (by decide) (by rw [hk];exact e.symm)) 0
  have r3:=r3.stp hS6 (by simp)
  have hSe2:=hSe2.stp hS6 (by simp) (by simp)
  have k1:=k1.stp hS6 (by simp;omega)
  have k2:=k2.stp hS6 (by simp;omega)
  have k3:=k3.stp hS6 (by simp;omega)
  have k4:=k4.stp hS6 (by simp;omega)
  have k5:=k5.stp hS6 (by simp;omega)
  have l1:=l1.turned (u:=0) hb6
  repeat' (first|refine R1 ?_|refine R2 ?_|fail)
  refine Zk Tryz.results43 (vs:=[]) rfl ?_
  exact ⟨_,_,(hSS.trans (hS5.mono (by simp))).trans (hS6.mono (by simp)),⟨lf,tq,lp,lc,cp,cc,_,k1,k2,k3,k4,k5,by rw [Array.size_push];omega⟩,⟨life,pi,ci,ins,p3,c3,l1,l2,r3,hin,hlen⟩,hSe2⟩
structure DeedR where
 (kind conn num:Int) (bp:Option Addr) (bn bc:Nat)
def Cr:Enc DeedR:=⟨5,fun d=>[.int .i64 d.kind,.int .i64 d.conn,.int .i64 d.num,.slice d.bp d.bn d.bc,.slice none 0 0],fun _=>rfl,fun _ v hv=>by simp at hv;rcases hv with rfl|rfl|rfl|rfl|rfl <;> rfl,by decide⟩
theorem Wq {R:Bg}:Ed R≠[]:=by
 rw [MV]
 unfold BC
 repeat' split
 all_goals simp
variable {num : Int}
set_option maxRecDepth 20000 in
theorem Oi (h:Srv g w sb m kp dk slot log clk lasts cs n) (hL:Ct g w x n outs q) (hSe:AV g w x.b x.ss x.cl x.rd x.qc none 0 [] #[]) (h8:8<x.b) (hn:n≤199) :
  Ctr Tryz.prog 26 [.pointer (some (adr (bx sb) 0)),.pointer (some (adr (bx x.ln) 0)),.agg (Cr.enc ⟨2,cn,num,none,0,0⟩).toArray] w (fun v w'=>v=.int .i64 0∧∃g' q',Stq ix [8,x.b,x.b+1,x.b+2] g g' w w'∧Srv g' w' sb m kp dk slot log clk lasts cs (n+1)∧Ct g' w' x (n+1) outs q'∧AV g' w' x.b x.ss x.cl x.rd x.qc none 0 [] #[]):=by
 refine Ac Tryz.func26 Tryz.ntmps26 rfl rfl rfl ?_
 repeat' (refine R1 ?_)
 refine Q1 ?_;refine Q8 ?_;intro a5 w1 ha5 hA5 hx1 hs1
 replace hA5:Blk w1.heap a5 43 [.int .i64 2,.int .i64 cn,.int .i64 num,.slice none 0 0,.slice none 0 0]:=hA5
 have h1:=h.ext hx1 0
 have hL1:=hL.ext hx1 0
 have hSe1:=hSe.ext hx1 0
 obtain ⟨life,pi,ci,ins,pq,cq,l1,-⟩:=hL1.ex
 have bl:=l1.blk
 repeat' (first|refine R1 ?_|(refine Q1 ?_;first|(refine Q4 (f:=41) (hc:=SF hSe1) ?_;rintro _ _ ⟨rfl,rfl⟩;refine Kc ?_)|(refine Q2 (hu:=by (first|exact T.f43_0|exact T.f91_0)) ?_)|(refine Q3 (hu:=by (first|exact T.p3|exact T.p87)) ?_))|refine R2 ?_|fail)
 all_goals try (exfalso;simp only at *;omega)
 refine Q1 ?_;refine Q4 (hc:=Ga (ix:=ix) h1 hL1 hSe1 h8 (fun _=>⟨rfl,rfl⟩) (by simp) (by omega)) ?_;rintro _ w2 ⟨g2,q2,hS2,h2,hL2,hSe2⟩;refine Kc ?_
 rw [List.append_nil] at hL2
 repeat' (first|refine R1 ?_|refine R2 ?_|fail)
 refine Kr Tryz.results26 ?_
 exact ⟨rfl,g2,q2,(Stq.of_ext hx1 0).trans hS2,h2,hL2,hSe2⟩
set_option maxRecDepth 20000 in
theorem Oj (hB:Bs W0 ix g w) (hT:Pow W0) (h:Srv g w sb m kp dk slot log clk lasts cs n) (hL:Ct g w x n outs q) (hSe:AV g w x.b x.ss x.cl x.rd x.qc none 0 [] #[.slice q2 l.length d2]) (h8:8<x.b) (hn:n≤199) (hU:∀t∈U,0<t∧(t<8∨x.b+3<t))
  (hst:∀R g1 w1 g2 w2,Ψ R g1 w1→Stq ix [0,8,x.b,x.b+1,x.b+2,x.b+3] g1 g2 w1 w2→Ψ R g2 w2) (hLf:∀R g1 w1,Ψ R g1 w1→Lf R)
  (hDo:∀g1 w1,Stq ix [x.b] g g1 w w1→Ctr Tryz.prog 58 [.pointer (some (adr (bx x.cl) 0)),.slice q2 l.length d2] w1 (fun v w'=>∃R,v=.tuple #[.agg (Aq.enc R).toArray,.bool false]∧∃g',Stq ix U g1 g' w1 w'∧Ψ R g' w')) :
  Ctr Tryz.prog 26 [.pointer (some (adr (bx sb) 0)),.pointer (some (adr (bx x.ln) 0)),.agg (Cr.enc ⟨2,cn,num,none,0,0⟩).toArray] w (fun v w'=>v=.int .i64 1∧∃R g' q',Stq ix (8 :: x.b :: (x.b+1) :: (x.b+2) :: U) g g' w w'∧Srv g' w' sb m kp dk slot log clk lasts cs (n+1)∧Ct g' w' x (n+1) (outs++Ed R) q'∧AV g' w' x.b x.ss x.cl x.rd x.qc none 0 [] #[]∧Ψ R g' w'):=by
 have u0:0 ∉ U:=fun e=>by have:=hU _ e;omega
 have u8:8 ∉ U:=fun e=>by have:=hU _ e;omega
 have ub:x.b ∉ U:=fun e=>by have:=hU _ e;omega
 have ub1:x.b+1 ∉ U:=fun e=>by have:=hU _ e;omega
 have ub2:x.b+2 ∉ U:=fun e=>by have:=hU _ e;omega
 have ub3:x.b+3 ∉ U:=fun e=>by have:=hU _ e;omega
 refine Ac Tryz.func26 Tryz.ntmps26 rfl rfl rfl ?_
 repeat' (refine R1 ?_)
 refine Q1 ?_;refine Q8 ?_;intro a5 w1 ha5 hA5 hx1 hs1
 replace hA5:Blk w1.heap a5 43 [.int .i64 2,.int .i64 cn,.int .i64 num,.slice none 0 0,.slice none 0 0]:=hA5
 have h1:=h.ext hx1 0
 have hL1:=hL.ext hx1 0
 have hSe1:=hSe.ext hx1 0
 have hB1:Bs W0 ix (rt g w 0) w1:=hB.stp (T:=[]) (Stq.of_ext hx1 0) (by simp)
 obtain ⟨life,pi,ci,ins,pq,cq,l1,-⟩:=hL1.ex
 have bl:=l1.blk
 repeat' (first|refine R1 ?_|(refine Q1 ?_;first|(refine Q2 (hu:=by (first|exact T.f43_0|exact T.f91_0)) ?_)|(refine Q3 (hu:=by (first|exact T.p3|exact T.p87)) ?_))|refine R2 ?_|fail)
 all_goals try (exfalso;simp only at *;omega)
 refine Q1 ?_;refine Q4 (hc:=UJ hB1 hT hSe1 u0 ub ub3 (by omega) (fun R g1 w1 g2 w2 hp hs=>hst R g1 w1 g2 w2 hp (hs.mono (by simp))) hLf (fun g1 w1' hs=>hDo g1 w1' ((Stq.of_ext hx1 0).trans hs))) ?_;rintro _ w2 ⟨rfl,R,g2,po,co,hS2,hSe2,hΨ⟩;refine Kc ?_
 have h2:=h1.stp hS2 (by simp;exact ⟨by omega,u8⟩)
 have hL2:=hL1.stp hS2 (by simp;exact ub1) (by simp;exact ub2)
 have hlen:=Fj (hLf _ _ _ hΨ)
 have hpos:=Wq (R:=R)
 repeat' (first|refine R1 ?_|refine R2 ?_|fail)
 all_goals try (exfalso;simp only at *;omega)
 refine Q1 ?_;refine Q4 (hc:=Ga (ix:=ix) h2 hL2 hSe2 h8 (fun e=>absurd e hpos) hlen (by omega)) ?_;rintro _ w3 ⟨g3,q3,hS3,h3,hL3,hSe3⟩;refine Kc ?_
 repeat' (first|refine R1 ?_|refine R2 ?_|fail)
 refine Kr Tryz.results26 ?_
 exact ⟨rfl,R,g3,q3,((Stq.of_ext hx1 0).trans (hS2.mono (fun t ht=>by simp at ht ⊢;rcases ht with e|e <;> simp [e]))).trans (hS3.mono (fun t ht=>by simp at ht ⊢;rcases ht with e|e|e|e <;> simp [e])),h3,hL3,hSe3,hst _ _ _ _ _ hΨ (hS3.mono (fun t ht=>by simp at ht ⊢;rcases ht with e|e|e|e <;> simp [e]))⟩
set_option maxRecDepth 20000 in
theorem Qf (hB:Bs W0 ix g w) (hT:Pow W0) (hE:CL W0) (h:Srv g w sb m kp dk slot log clk lasts cs n) (hL:Ct g w x n outs q) (hSe:AV g w x.b x.ss x.cl x.rd x.qc none 0 [] #[]) (h8:8<x.b) (hrd:W0.heap.size≤x.rd) (hn:n≤199) (hb:SlT g w 0 Ai q1 d1 (prB l)) (hl:FE l) :
  Ctr Tryz.prog 26 [.pointer (some (adr (bx sb) 0)),.pointer (some (adr (bx x.ln) 0)),.agg (Cr.enc ⟨1,cn,num,q1,(prB l).length,d1⟩).toArray] w (fun v w'=>v=.int .i64 0∧∃g' q' q2 d2,Stq ix [8,x.b,x.b+1,x.b+2,x.b+3] g g' w w'∧Srv g' w' sb m kp dk slot log clk lasts cs (n+2)∧Ct g' w' x (n+2) outs q'∧AV g' w' x.b x.ss x.cl x.rd x.qc none 0 [] #[.slice q2 l.length d2]∧SlT g' w' (x.b+3) Ar q2 d2 l):=by
 have hlen:(prB l).length≤1000000:=by
  have:=PT (l:=l) (by have:=hl.len;omega) (fun x hx=>by have:=hl.words x hx;omega)
  have:=hl.len
  omega
 refine Ac Tryz.func26 Tryz.ntmps26 rfl rfl rfl ?_
 repeat' (refine R1 ?_)
 refine Q1 ?_;refine Q8 ?_;intro a5 w1 ha5 hA5 hx1 hs1
 replace hA5:Blk w1.heap a5 43 [.int .i64 1,.int .i64 cn,.int .i64 num,.slice q1 (prB l).length d1,.slice none 0 0]:=hA5
 have hx1d:=hx1.trans (Ext.drew Ext.rfl')
 have h1:=h.ext hx1d 0
 have hL1:=hL.ext hx1d 0
 have hSe1:=hSe.ext hx1d 0
 have hb1:=hb.ext hx1d 0
 have hA1:=hA5.ext (Ext.drew Ext.rfl')
 have hAk:Bk (rt g w 0) w1.drew 0 a5 43 [.int .i64 1,.int .i64 cn,.int .i64 num,.slice q1 (prB l).length d1,.slice none 0 0]:=Bk.new hA1 (by omega) (by unfold ixT;decide)
 obtain ⟨life,pi,ci,ins,pq,cq,l1,l2,l3,l4,l5⟩:=hL1.ex
 have bl:=l1.blk
 repeat' (first|refine R1 ?_|(refine Q1 ?_;first|(refine Q2 (hu:=T.f43_0) ?_)|(refine Q3 (hu:=T.p3) ?_))|refine R2 ?_|fail)
 all_goals try (exfalso;simp only at *;omega)
 refine Zl 2 [] (.node [0,1,2,3,4] (.alt 5 (.leaf [6,7,8]) .stop)) mixed (by decide +kernel) ?_
 repeat' (first|refine R1 ?_|(refine Q1 ?_;first|(refine Q2 (hu:=by (first|exact T.f91_0|exact T.f43_3)) ?_)|(refine Q3 (hu:=by (first|exact T.p87|exact T.p40)) ?_))|(refine Zj ?_)|(refine Zp ?_)|(apply Zv)|refine R2 ?_|(exact Zq)|fail)
 all_goals
  refine Q1 ?_
  refine Q12 Eu (q1,(prB l).length,d1) T.s145 ?_
  intro p2 w2 hp2 hs2 hb2 hx2 hz2
  have hQ2:SlT (rt (rt g w 0) w1.drew 0) w2 0 Eu p2 1 [(q1,(prB l).length,d1)]:=⟨hs2,fun a ha=>by
   rw [hp2] at ha
   injection ha with ha
   subst ha
   exact ⟨hb2.lt,CU (Nat.le_refl _),(Blk.noB hb2 (by unfold ixT;decide)).not⟩⟩
  have hV2:=h1.ext hx2 0
  have hL2:=hL1.ext hx2 0
  have hSe2:=hSe1.ext hx2 0
  have hB2:=(hB.stp (T:=[]) (Stq.of_ext hx1d 0) (by simp)).stp (T:=[]) (Stq.of_ext hx2 0) (by simp)
  have hbb2:=hb1.ext hx2 0
  have l1:=l1.ext hx2 0
  have hA2:=hAk.ext hx2 0
  skip
  refine Q1 ?_;refine Q4 (hc:=SE (ix:=ix) hSe2 (by omega) hB2.ext hrd hQ2 hbb2 hl hT hE) ?_;rintro _ w3 ⟨rfl,g3,q2,d2,hS3,hSe3,hW3⟩;refine Kc ?_
  have hV3:=hV2.stp hS3 (by simp;omega)
  have l1:=l1.stp hS3 (by simp)
  have l2:=(l2.ext hx2 0).stp hS3 (by simp)
  have l3:=(l3.ext hx2 0).stp hS3 (by simp)
  have hb3:=hbb2.stp hS3 (by simp;omega)
  have hA3:=hA2.stp hS3 (by simp;omega)
  repeat' (first|refine R1 ?_|refine R2 ?_|fail)
  have hd:=Ext.drew (Ext.rfl' (w:=w3))
  have hV3:=hV3.ext hd 0
  have l1:=l1.ext hd 0
  have l2:=l2.ext hd 0
  have l3:=l3.ext hd 0
  have hb3:=hb3.ext hd 0
  have hA3:=hA3.ext hd 0
  have hSe3:=hSe3.ext hd 0
  have hW3:=hW3.ext hd 0
  have bl3:=l1.blk
  have bA3:=hA3.blk
  have o3:=l2.own
  have s3:=hb3.sl
  have hin0:n * 1000000≤199 * 1000000:=Nat.mul_le_mul_right _ hn
  have hin1:(n+1) * 1000000=n * 1000000+1000000:=Nat.succ_mul _ _
  refine Zl 1 [] (.leaf [0,1,2,3,4,5,6,7,8,9,10,11,12]) mixed (by decide +kernel) ?_
  repeat' (first|refine R1 ?_|(refine Q1 ?_;first|(refine Q16 T.s40 o3 s3 (hB:=Nat.zero_le _) (hlen:=by (omega)) (hmax:=by (omega)) ?_;intro p4 c4 w4 ha4)|(refine Q2 (hu:=by (first|exact T.f43_3|exact T.f91_1|exact T.f89_1)) ?_)|(refine Q3 (hu:=T.p40) ?_))|(refine Zj ?_)|refine R2 ?_|fail)
  have hS4:=l2.appS (T:=[x.b+1]) (ix:=ix) ha4 (by simp)
  have r4:=l2.app ha4
  have l1:=l1.turn ha4.grown (l2.neB l1 (by decide)) (x.b+1)
  have l3:=l3.stp hS4 (by simp)
  have hV4:=hV3.stp hS4 (by simp;omega)
  have hSe4:=hSe3.stp hS4 (by simp) (by simp)
  have hW4:=hW3.stp hS4 (by simp)
  have bl4:=l1.blk
  refine Q1 ?_;refine Q5 T.z40 bl4 ?_;intro w5 hb5 hg5 hs5
  replace hb5:Blk w5.heap x.ln 91 [.pointer (some (adr (bx x.ss) 0)),.int .i64 life,.slice p4 (ins++prB l).length c4,.slice pq outs.length cq,.bool false,.bool q,.bool false]:=hb5
  have hS5:=l1.stpG (T:=[x.b+1]) (ix:=ix) hg5 0 (by simp)
  have r5:=r4.turn hg5 (fun k hk e=>r4.neB l1 (by decide) (by rw [hk];exact e.symm)) 0
  have l3:=l3.stp hS5 (by simp)
  have hV5:=hV4.stp hS5 (by simp;omega)
  have hSe5:=hSe4.stp hS5 (by simp) (by simp)
  have hW5:=hW4.stp hS5 (by simp)
  have l1:=l1.turned (u:=0) hb5
  have hin:(ins++prB l).length≤(n+1) * 1000000:=by rw [List.length_append,hin1];omega
  have hLn:Ct _ w5 x (n+1) outs q:=⟨life,p4,c4,_,pq,cq,l1,r5,l3,hin,Nat.le_trans l5 (Nat.mul_le_mul_right _ (Nat.le_succ n))⟩
  repeat' (first|refine R1 ?_|refine R2 ?_|fail)
  refine Q1 ?_;refine Q4 (hc:=Ga (ix:=ix) hV5.up hLn hSe5 h8 (fun _=>⟨rfl,rfl⟩) (by simp) (by omega)) ?_;rintro _ w6 ⟨g6,q6,hS6,hV6,hL6,hSe6⟩;refine Kc ?_
  rw [List.append_nil] at hL6
  repeat' (first|refine R1 ?_|refine R2 ?_|fail)
  refine Kr Tryz.results26 ?_
  have hX1:Stq ix [8,x.b,x.b+1,x.b+2,x.b+3] g _ w w2:=(Stq.of_ext hx1d 0).trans (Stq.of_ext hx2 0)
  have hX2:=((hX1.trans (hS3.mono (by simp))).trans (Stq.of_ext hd 0)).trans (hS4.mono (by simp))
  exact ⟨rfl,g6,q6,q2,d2,(hX2.trans (hS5.mono (by simp))).trans (hS6.mono (by simp)),hV6,hL6,hSe6,hW5.stp hS6 (by simp;omega)⟩
set_option maxRecDepth 20000 in
theorem TU (hV:Srv g w sb m kp dk slot log clk lasts cs n) (hi:cs[i]?=some x) (hcs:cs.length≤256) (hL:Ct g w x n outs q) (hSe:AV g w x.b x.ss x.cl x.rd x.qc none 0 [] #[]) (h8:8<x.b) (hn:n≤199) (hD:Sl w.heap Cr dp dc [⟨2,i,num,none,0,0⟩]) :
  Ctr Tryz.prog 12 [.pointer (some (adr (bx sb) 0)),.slice dp 1 dc] w (fun v w'=>v=.int .i64 0∧∃g' q',Stq ix [8,x.b,x.b+1,x.b+2] g g' w w'∧Srv g' w' sb m kp dk slot log clk lasts cs (n+1)∧Ct g' w' x (n+1) outs q'∧AV g' w' x.b x.ss x.cl x.rd x.qc none 0 [] #[]):=by
 obtain ⟨lf,tq,lp,lc,cp,cc,bf,k1,k2,k3,k4,k5,k6⟩:=hV.ex
 have bb1:=k1.blk
 refine Ac Tryz.func12 Tryz.ntmps12 rfl rfl rfl ?_
 repeat' (first|refine R1 ?_|(refine Q1 ?_;first|(refine Q15 Tryz.underlying37 (t:=37) ?_)|(refine Q15 Tryz.underlying68 (t:=68) ?_)|(refine Q2 (hu:=T.f72_1) ?_)|(refine Q3 (hu:=T.p68) ?_)|(refine Q6 (hu:=T.s67) ?_))|apply ZF|apply ZK|refine R2 ?_|fail)
 all_goals try (exfalso;simp only at *;omega)
 refine Zm ?_
 repeat' (first|(refine Q1 ?_;first|(refine Q10 T.s67 hD.ok (q:=0) (h1:=by (simp)) ?_)|(refine Q14 T.a43 (q:=0) (e:=Cr) (hs:=hD) (hq:=rfl) ?_))|refine R1 ?_|refine R2 ?_|fail)
 all_goals try (exfalso;simp only at *;omega)
 refine Q1 ?_;refine Q7 T.zero43 ?_;intro a7 w1 ha7 hA7 hx1 hs1
 have bb2:=bb1.ext hx1
 skip
 refine Q1 ?_;refine Q5 T.z43 hA7 ?_;intro w2 hA7 hg2 hs2
 have hx2:Ext w w2:=hx1.own hg2 (fun k hk=>by injection hk;omega)
 replace bb2:=bb1.ext hx2
 have hS2:Stq ix [8,x.b,x.b+1,x.b+2,x.b+3] g (rt g w 0) w w2:=Stq.of_ext hx2 0
 have hV2:=hV.ext hx2 0
 replace hA7:Blk w2.heap a7 43 [.int .i64 2,.int .i64 (i:Int),.int .i64 num,.slice none 0 0,.slice none 0 0]:=hA7
 have hL2:=hL.ext hx2 0
 have hSe2:=hSe.ext hx2 0
 repeat' (first|refine R1 ?_|(refine Q1 ?_;first|(refine Q4 (f:=25) (hc:=KC hV2 hi hcs hL2) ?_;rintro _ w3 ⟨rfl,hx3⟩;refine Kc ?_;replace hA7:=hA7.ext (Kx hx3))|(refine Q15 Tryz.underlying70 (t:=70) ?_)|(refine Q49 Tryz.underlying75 (t:=75) ?_)|(refine Q2 (hu:=by (first|exact T.f43_0|exact T.f72_5|exact T.f43_1)) ?_)|(refine Q3 (hu:=by (first|exact T.p3|exact T.p70)) ?_)|refine Q11 T.a43 ?_)|refine R2 ?_|fail)
 all_goals try (exfalso;simp only at *;omega)
 have hV3:=hV2.ext hx3 0
 have hL3:=hL2.ext hx3 0
 have hSe3:=hSe2.ext hx3 0
 refine Q1 ?_;refine Q4 (hc:=Oi (ix:=ix) hV3 hL3 hSe3 h8 hn) ?_;rintro _ w4 ⟨rfl,g4,q4,hS4,hV4,hL4,hSe4⟩;refine Kc ?_
 repeat' (first|refine R1 ?_|refine R2 ?_|fail)
 refine Zg ?_
 repeat' (first|refine R1 ?_|apply Zo|refine R2 ?_|fail)
 all_goals try (exfalso;simp only at *;omega)
 refine Kr Tryz.results12 ?_
 exact ⟨rfl,g4,q4,((Stq.of_ext hx2 0).trans (Stq.of_ext hx3 0)).trans hS4,hV4,hL4,hSe4⟩
set_option maxRecDepth 20000 in
theorem TV (hB:Bs W0 ix g w) (hT:Pow W0) (hV:Srv g w sb m kp dk slot log clk lasts cs n) (hi:cs[i]?=some x) (hcs:cs.length≤256) (hL:Ct g w x n outs q) (hSe:AV g w x.b x.ss x.cl x.rd x.qc none 0 [] #[.slice q2 l.length d2]) (h8:8<x.b) (hn:n≤199) (hU:∀t∈U,0<t∧(t<8∨x.b+3<t))
  (hst:∀R g1 w1 g2 w2,Ψ R g1 w1→Stq ix [0,8,x.b,x.b+1,x.b+2,x.b+3] g1 g2 w1 w2→Ψ R g2 w2) (hLf:∀R g1 w1,Ψ R g1 w1→Lf R)
  (hDo:∀g1 w1,Stq ix [x.b] g g1 w w1→Ctr Tryz.prog 58 [.pointer (some (adr (bx x.cl) 0)),.slice q2 l.length d2] w1 (fun v w'=>∃R,v=.tuple #[.agg (Aq.enc R).toArray,.bool false]∧∃g',Stq ix U g1 g' w1 w'∧Ψ R g' w')) (hD:Sl w.heap Cr dp dc [⟨2,i,num,none,0,0⟩]) :
  Ctr Tryz.prog 12 [.pointer (some (adr (bx sb) 0)),.slice dp 1 dc] w (fun v w'=>v=.int .i64 1∧∃R g' q',Stq ix (8 :: x.b :: (x.b+1) :: (x.b+2) :: U) g g' w w'∧Srv g' w' sb m kp dk slot log clk lasts cs (n+1)∧Ct g' w' x (n+1) (outs++Ed R) q'∧AV g' w' x.b x.ss x.cl x.rd x.qc none 0 [] #[]∧Ψ R g' w'):=by
 obtain ⟨lf,tq,lp,lc,cp,cc,bf,k1,k2,k3,k4,k5,k6⟩:=hV.ex
 have bb1:=k1.blk
 refine Ac Tryz.func12 Tryz.ntmps12 rfl rfl rfl ?_
 repeat' (first|refine R1 ?_|(refine Q1 ?_;first|(refine Q15 Tryz.underlying37 (t:=37) ?_)|(refine Q15 Tryz.underlying68 (t:=68) ?_)|(refine Q2 (hu:=T.f72_1) ?_)|(refine Q3 (hu:=T.p68) ?_)|(refine Q6 (hu:=T.s67) ?_))|apply ZF|apply ZK|refine R2 ?_|fail)
 all_goals try (exfalso;simp only at *;omega)
 refine Zm ?_
 repeat' (first|(refine Q1 ?_;first|(refine Q10 T.s67 hD.ok (q:=0) (h1:=by (simp)) ?_)|(refine Q14 T.a43 (q:=0) (e:=Cr) (hs:=hD) (hq:=rfl) ?_))|refine R1 ?_|refine R2 ?_|fail)
 all_goals try (exfalso;simp only at *;omega)
 refine Q1 ?_;refine Q7 T.zero43 ?_;intro a7 w1 ha7 hA7 hx1 hs1
 have bb2:=bb1.ext hx1
 skip
 refine Q1 ?_;refine Q5 T.z43 hA7 ?_;intro w2 hA7 hg2 hs2
 have hx2:Ext w w2:=hx1.own hg2 (fun k hk=>by injection hk;omega)
 replace bb2:=bb1.ext hx2
 have hS2:Stq ix [8,x.b,x.b+1,x.b+2,x.b+3] g (rt g w 0) w w2:=Stq.of_ext hx2 0
 have hV2:=hV.ext hx2 0
 replace hA7:Blk w2.heap a7 43 [.int .i64 2,.int .i64 (i:Int),.int .i64 num,.slice none 0 0,.slice none 0 0]:=hA7
 have hL2:=hL.ext hx2 0
 have hSe2:=hSe.ext hx2 0
 repeat' (first|refine R1 ?_|(refine Q1 ?_;first|(refine Q4 (f:=25) (hc:=KC hV2 hi hcs hL2) ?_;rintro _ w3 ⟨rfl,hx3⟩;refine Kc ?_;replace hA7:=hA7.ext (Kx hx3))|(refine Q15 Tryz.underlying70 (t:=70) ?_)|(refine Q49 Tryz.underlying75 (t:=75) ?_)|(refine Q2 (hu:=by (first|exact T.f43_0|exact T.f72_5|exact T.f43_1)) ?_)|(refine Q3 (hu:=by (first|exact T.p3|exact T.p70)) ?_)|refine Q11 T.a43 ?_)|refine R2 ?_|fail)
 all_goals try (exfalso;simp only at *;omega)
 have hV3:=hV2.ext hx3 0
 have hL3:=hL2.ext hx3 0
 have hSe3:=hSe2.ext hx3 0
 have hS3:Stq ix [8,x.b,x.b+1,x.b+2,x.b+3] g (rt (rt g w 0) w2 0) w w3:=hS2.trans (Stq.of_ext hx3 0)
 have hB3:Bs W0 ix (rt (rt g w 0) w2 0) w3:=hB.stp hS3 (by simp;omega)
 refine Q1 ?_;refine Q4 (hc:=Oj hB3 hT hV3 hL3 hSe3 h8 hn hU hst hLf (fun g1 w1 hs=>hDo g1 w1 (((Stq.of_ext hx2 0).trans (Stq.of_ext hx3 0)).trans hs))) ?_;rintro _ w4 ⟨rfl,R,g4,q4,hS4,hV4,hL4,hSe4,hΨ⟩;refine Kc ?_
 repeat' (first|refine R1 ?_|refine R2 ?_|fail)
 refine Zg ?_
 repeat' (first|refine R1 ?_|apply Zo|refine R2 ?_|fail)
 all_goals try (exfalso;simp only at *;omega)
 refine Kr Tryz.results12 ?_
 exact ⟨rfl,R,g4,q4,((Stq.of_ext hx2 0).trans (Stq.of_ext hx3 0)).trans hS4,hV4,hL4,hSe4,hΨ⟩
set_option maxRecDepth 20000 in
theorem VH (hB:Bs W0 ix g w) (hT:Pow W0) (hE:CL W0) (hV:Srv g w sb m kp dk slot log clk lasts cs n) (hi:cs[i]?=some x) (hcs:cs.length≤256) (hL:Ct g w x n outs q) (hSe:AV g w x.b x.ss x.cl x.rd x.qc none 0 [] #[]) (h8:8<x.b) (hrd:W0.heap.size≤x.rd) (hn:n≤199) (hb:SlT g w 0 Ai q1 d1 (prB l)) (hl:FE l) (hD:Sl w.heap Cr dp dc [⟨1,i,num,q1,(prB l).length,d1⟩]) :
  Ctr Tryz.prog 12 [.pointer (some (adr (bx sb) 0)),.slice dp 1 dc] w (fun v w'=>v=.int .i64 0∧∃g' q' q2 d2,Stq ix [8,x.b,x.b+1,x.b+2,x.b+3] g g' w w'∧Srv g' w' sb m kp dk slot log clk lasts cs (n+2)∧Ct g' w' x (n+2) outs q'∧AV g' w' x.b x.ss x.cl x.rd x.qc none 0 [] #[.slice q2 l.length d2]∧SlT g' w' (x.b+3) Ar q2 d2 l):=by
 obtain ⟨lf,tq,lp,lc,cp,cc,bf,k1,k2,k3,k4,k5,k6⟩:=hV.ex
 have bb1:=k1.blk
 refine Ac Tryz.func12 Tryz.ntmps12 rfl rfl rfl ?_
 repeat' (first|refine R1 ?_|(refine Q1 ?_;first|(refine Q15 Tryz.underlying37 (t:=37) ?_)|(refine Q15 Tryz.underlying68 (t:=68) ?_)|(refine Q2 (hu:=T.f72_1) ?_)|(refine Q3 (hu:=T.p68) ?_)|(refine Q6 (hu:=T.s67) ?_))|apply ZF|apply ZK|refine R2 ?_|fail)
 all_goals try (exfalso;simp only at *;omega)
 refine Zm ?_
 repeat' (first|(refine Q1 ?_;first|(refine Q10 T.s67 hD.ok (q:=0) (h1:=by (simp)) ?_)|(refine Q14 T.a43 (q:=0) (e:=Cr) (hs:=hD) (hq:=rfl) ?_))|refine R1 ?_|refine R2 ?_|fail)
 all_goals try (exfalso;simp only at *;omega)
 refine Q1 ?_;refine Q7 T.zero43 ?_;intro a7 w1 ha7 hA7 hx1 hs1
 have bb2:=bb1.ext hx1
 skip
 refine Q1 ?_;refine Q5 T.z43 hA7 ?_;intro w2 hA7 hg2 hs2
 have hx2:Ext w w2:=hx1.own hg2 (fun k hk=>by injection hk;omega)
 replace bb2:=bb1.ext hx2
 have hS2:Stq ix [8,x.b,x.b+1,x.b+2,x.b+3] g (rt g w 0) w w2:=Stq.of_ext hx2 0
 have hV2:=hV.ext hx2 0
 replace hA7:Blk w2.heap a7 43 [.int .i64 1,.int .i64 (i:Int),.int .i64 num,.slice q1 (prB l).length d1,.slice none 0 0]:=hA7
 have hL2:=hL.ext hx2 0
 have hSe2:=hSe.ext hx2 0
 repeat' (first|refine R1 ?_|(refine Q1 ?_;first|(refine Q4 (f:=25) (hc:=KC hV2 hi hcs hL2) ?_;rintro _ w3 ⟨rfl,hx3⟩;refine Kc ?_;replace hA7:=hA7.ext (Kx hx3))|(refine Q15 Tryz.underlying70 (t:=70) ?_)|(refine Q49 Tryz.underlying75 (t:=75) ?_)|(refine Q2 (hu:=by (first|exact T.f43_0|exact T.f72_5|exact T.f43_1)) ?_)|(refine Q3 (hu:=by (first|exact T.p3|exact T.p70)) ?_)|refine Q11 T.a43 ?_)|refine R2 ?_|fail)
 all_goals try (exfalso;simp only at *;omega)
 have hV3:=hV2.ext hx3 0
 have hL3:=hL2.ext hx3 0
 have hSe3:=hSe2.ext hx3 0
 have hS3:Stq ix [8,x.b,x.b+1,x.b+2,x.b+3] g (rt (rt g w 0) w2 0) w w3:=hS2.trans (Stq.of_ext hx3 0)
 have hB3:Bs W0 ix (rt (rt g w 0) w2 0) w3:=hB.stp hS3 (by simp;omega)
 have hb3:=hb.stp hS3 (by simp;omega)
 refine Q1 ?_;refine Q4 (hc:=Qf (ix:=ix) hB3 hT hE hV3 hL3 hSe3 h8 hrd hn hb3 hl) ?_;rintro _ w4 ⟨rfl,g4,q4,q2,d2,hS4,hV4,hL4,hSe4,hW4⟩;refine Kc ?_
 repeat' (first|refine R1 ?_|refine R2 ?_|fail)
 refine Zg ?_
 repeat' (first|refine R1 ?_|apply Zo|refine R2 ?_|fail)
 all_goals try (exfalso;simp only at *;omega)
 refine Kr Tryz.results12 ?_
 exact ⟨rfl,g4,q4,q2,d2,((Stq.of_ext hx2 0).trans (Stq.of_ext hx3 0)).trans hS4,hV4,hL4,hSe4,hW4⟩
end Go.Proofs.YtkcolpfanmdmiaaGreatDoor
namespace Go.V
end Go.V
namespace Go.Proofs.YtkcolpfanmdmiaaGreatDoor
open Go.V Go.RowKit Go.Conc
attribute [local irreducible] PlainT
theorem Il {p:Option Addr} {c:Nat} {xs:List UInt8} {w:World} (hx:Sl w.heap Ai p c xs) (hb:xs.length≤1000000000) :
  Ctr Tryz.prog 30 [.slice p xs.length c] w (fun v w'=>∃p' c',v=.slice p' xs.length c'∧Go.V.Own w' w.heap.size 5 Ai p' c' xs∧Ext w w'):=by
 refine Ac Tryz.func30 Tryz.ntmps30 rfl rfl rfl ?_
 repeat' (first|refine R1 ?_|(refine Q1 ?_;refine Q48 T.s40 ?_)|refine R2 ?_|(apply Zy;exact rfl;all_goals intro h)|fail)
 ·refine Kr Tryz.results30 ?_
  have hn:p=none:=by simpa using h
  have h1:=hx.ok.nul hn
  have h2:=hx.ok.le
  obtain rfl:xs=[]:=List.eq_nil_of_length_eq_zero (by omega)
  exact ⟨none,0,rfl,Go.V.Own.nil _ _ _ _,Kz⟩
 ·refine Q1 ?_
  refine Q46 Ai T.s40 ?_
  intro p1 w1 ho hx1 hs1
  have hsl:=hx.ext hx1
  repeat' (first|refine R1 ?_|(refine Q1 ?_;(refine Q45 T.s40 ho hsl ?_;intro p2 c2 w2 ho2 hg2 hn2))|refine R2 ?_|fail)
  refine Kr Tryz.results30 ?_
  exact ⟨p2,c2,rfl,ho2,Ext.own hx1 hg2 (fun k hk=>(ho.ge k hk).1)⟩
structure Nk where
 (life:Int) (ip:Option Addr) (il ic:Nat) (op:Option Addr) (ol oc:Nat) (over:Bool)
def Gm:Enc Nk:=⟨4,fun d=>[.int .i64 d.life,.slice d.ip d.il d.ic,.slice d.op d.ol d.oc,.bool d.over],fun _=>rfl,fun _ v hv=>by simp at hv;rcases hv with rfl|rfl|rfl|rfl <;> rfl,by decide⟩
def Wrs (w:World) (B:Nat) (cs:List Cn) (ou:Nat→List UInt8) (k:Nat) (ws:List Nk):Prop :=
 ∀i x,cs[i]?=some x→i<k→∃r,ws[i]?=some r∧r.ol=(ou i).length∧Go.V.Own w B 5 Ai r.op r.oc (ou i)
variable {cs : List Cn}
set_option maxRecDepth 20000 in
theorem Me (hV:Srv g w sb m kp dk slot log clk lasts cs n) (hcs:cs.length≤256) (hn:n≤200) (hC:∀i x,cs[i]?=some x→(∃q,Ct g w x n (ou i) q)∧∃po co out buf,AV g w x.b x.ss x.cl x.rd x.qc po co out buf) :
  Ctr Tryz.prog 16 [.pointer (some (adr (bx sb) 0))] w (fun v w'=>∃p c ws,v=.slice p ws.length c∧ws.length=cs.length∧Go.V.Own w' w.heap.size 89 Gm p c ws∧Wrs w' w.heap.size cs ou cs.length ws∧Ext w w'):=by
 obtain ⟨lf,tq,lp,lc,cp,cc,bf,k1,k2,k3,k4,k5,k6⟩:=hV.ex
 have bb1:=k1.blk
 have hlen:(cs.map (·.ln)).length=cs.length:=List.length_map _
 refine Ac Tryz.func16 Tryz.ntmps16 rfl rfl rfl ?_
 repeat' (first|refine R1 ?_|(refine Q1 ?_;first|(refine Q15 Tryz.underlying37 (t:=37) ?_)|(refine Q2 (hu:=T.f72_4) ?_)|(refine Q3 (hu:=T.p69) ?_)|(refine Q6 (hu:=T.s69) ?_))|refine R2 ?_|fail)
 all_goals try (exfalso;simp only at *;omega)
 refine Q1 ?_
 refine Q28 Gm T.s56 ?_
 intro p1 w1 ho1 hx1 hz1
 have bb2:=bb1.ext hx1
 repeat' (first|refine R1 ?_|(refine Q1 ?_;first|(refine Q2 (hu:=T.f72_4) ?_)|(refine Q3 (hu:=T.p69) ?_)|(refine Q6 (hu:=T.s69) ?_))|refine R2 ?_|fail)
 refine Zh (ι:=Nat × List Nk × Option Addr × Nat) (fun y=>[(3,.slice y.2.2.1 y.2.1.length y.2.2.2),(18,.slice cp (cs.map (·.ln)).length cc),(19,.int .i64 ((cs.map (·.ln)).length:Int)),(20,.int .i64 (y.1:Int))])
  (fun y w'=>Ext w w'∧y.1≤cs.length∧y.2.1.length=y.1∧Go.V.Own w' w.heap.size 89 Gm y.2.2.1 y.2.2.2 y.2.1∧Wrs w' w.heap.size cs ou y.1 y.2.1) (fun y=>cs.length - y.1) (0,[],p1,_)
  ⟨rfl,rfl,rfl,rfl,trivial⟩ ⟨hx1,Nat.zero_le _,rfl,ho1,fun i x h h0=>absurd h0 (Nat.not_lt_zero _)⟩ ?_
 rintro ⟨k,ws,po,co⟩ w3 ⟨hx3,hk,hl3,hO,hW⟩
 simp only at hk hl3 hO hW
 by_cases hlt:k<cs.length
 ·obtain ⟨x,hx⟩:=Aj hlt
  obtain ⟨⟨q,hL⟩,po',co',out',buf',hSe⟩:=hC k x hx
  have hL3:=hL.ext hx3 0
  have hSe3:=hSe.ext hx3 0
  obtain ⟨life,pi,ci,ins,pq,cq,l1,l2,l3,l4,l5⟩:=hL3.ex
  have bl:=l1.blk
  have hs:=(k3.ext hx3 0).sl
  have hi':(cs.map (·.ln))[k]?=some x.ln:=by rw [List.getElem?_map,hx];rfl
  have hlt':k<(cs.map (·.ln)).length:=by omega
  repeat' (first|refine R1 ?_|(refine Q1 ?_;first|(refine Q10 T.s69 hs.ok (q:=k) (h1:=hlt') ?_)|(refine Q9 T.p75 (q:=k) (e:=ePt) (hs:=hs) (hq:=hi') ?_)|(refine Q2 (hu:=T.f91_1) ?_)|(refine Q34 T.a89 rfl (hb:=by assumption) ?_))|refine R2 ?_|(apply Za;exact rfl;all_goals (intro h;try (exfalso;omega)))|fail)
  refine Q1 ?_;refine Q7 T.zero89 ?_;intro a6 w4 ha6 hA6 hx4 hs4
  skip
  refine Q1 ?_;refine Q5 T.z89 hA6 ?_;intro w5 hA6 hg5 hs5
  replace hA6:Blk w5.heap a6 89 [.int .i64 life,.slice pi ins.length ci,.slice pq (ou k).length cq,.bool false]:=hA6
  have hx35:Ext w3 w5:=hx4.own hg5 (fun k hk=>by injection hk;omega)
  have hx35d:=hx35.trans (Ext.drew Ext.rfl')
  have si:=(l2.ext hx35d 0).sl
  have so:=(l3.ext hx35d 0).sl
  have hl0:n * 3000≤200 * 3000:=Nat.mul_le_mul_right _ hn
  have hl1:n * 1000000≤200 * 1000000:=Nat.mul_le_mul_right _ hn
  repeat' (first|(refine Q1 ?_;first|(refine Q4 (f:=30) (hc:=Il si (by omega)) ?_;rintro _ w6 ⟨p6,c6,rfl,ho6,hx6⟩;refine Kc ?_;replace hA6:=hA6.ext (Kx hx6))|(refine Q4 (f:=30) (hc:=Il (so.ext hx6) (by omega)) ?_;rintro _ w7 ⟨p7,c7,rfl,ho7,hx7⟩;refine Kc ?_;replace hA6:=hA6.ext (Kx hx7))|(refine Q2 (hu:=by (first|exact T.f89_1|exact T.f89_2)) ?_)|(refine Q3 (hu:=T.p40) ?_))|refine R1 ?_|refine Zf 1 [] [0,1,3,4,2,6,5,7,8,9] mixed (by decide +kernel) ?_|fail)
  refine Q1 ?_;refine Q5 T.z40 hA6 ?_;intro w8 hA8 hg8 hs8
  replace hA8:Blk w8.heap a6 89 [.int .i64 life,.slice p6 ins.length c6,.slice pq (ou k).length cq,.bool false]:=hA8
  repeat' (refine Q1 ?_;(refine Q2 (hu:=T.f89_2) ?_))
  refine Q1 ?_;refine Q5 T.z40 hA8 ?_;intro w9 hA9 hg9 hs9
  replace hA9:Blk w9.heap a6 89 [.int .i64 life,.slice p6 ins.length c6,.slice p7 (ou k).length c7,.bool false]:=hA9
  have z5:=hx35d.size
  have z6:=hx6.size
  have z7:=hx7.size
  have hx39:Ext w3 w9:=(((hx35d.trans hx6).trans hx7).own hg8 (fun k hk=>by injection hk;omega)).own hg9 (fun k hk=>by injection hk;omega)
  have hSe9:=hSe3.ext hx39 0
  have bl9:=bl.ext hx39
  repeat' (first|refine R1 ?_|(refine Q1 ?_;first|(refine Q4 (f:=31) (hc:=FY hSe9) ?_;rintro _ _ ⟨rfl,rfl⟩;refine Kc ?_)|(refine Q2 (hu:=by (first|exact T.f91_3|exact T.f91_0|exact T.f89_3)) ?_)|(refine Q3 (hu:=by (first|exact T.p4|exact T.p87)) ?_))|refine R2 ?_|fail)
  refine Q1 ?_;refine Q5 T.z4 hA9 ?_;intro w10 hA10 hg10 hs10
  replace hA10:Blk w10.heap a6 89 (Gm.enc ⟨life,p6,ins.length,c6,p7,(ou k).length,c7,false⟩):=hA10
  have hx310:Ext w3 w10:=hx39.own hg10 (fun k hk=>by injection hk;omega)
  have hO10:=hO.ext hx310
  repeat' (first|refine R1 ?_|(refine Q1 ?_;(refine Q11 T.a89 (hb:=hA10) ?_))|fail)
  refine Q1 ?_
  refine Q12 Gm ⟨life,p6,ins.length,c6,p7,(ou k).length,c7,false⟩ T.s56 ?_
  intro p11 w11 hp11 hs11 hb11 hx11 hz11
  have hO11:=hO10.ext hx11
  have hx311:=hx310.trans hx11
  repeat' (first|refine R1 ?_|(refine Q1 ?_;(refine Q16 T.s56 hO11 hs11 (hB:=by (have:=hx3.size;have:=hx311.size;omega)) ?_;intro p12 c12 w12 ha12))|refine R2 ?_|fail)
  have hx312:Ext w w12:=(hx3.trans hx311).own ha12.grown (fun k hk=>(hO.ge k hk).1)
  have hn7:=(ho7.base (B':=w.heap.size) (by have:=hx3.size;omega)).kept hg8 (fun a ha e=>ho7.apartB hA6 (by decide) (by rw [ha];exact e.symm))
  have hn8:=hn7.kept hg9 (fun a ha e=>hn7.apartB hA8 (by decide) (by rw [ha];exact e.symm))
  have hn9:=(hn8.kept hg10 (fun a ha e=>hn8.apartB hA9 (by decide) (by rw [ha];exact e.symm))).ext hx11
  have hn12:=hn9.kept ha12.grown (hO11.apartR hn9 (by decide))
  refine Zc (k+1,ws++[⟨life,p6,ins.length,c6,p7,(ou k).length,c7,false⟩],p12,c12) ⟨rfl,rfl,rfl,rfl,trivial⟩ ⟨hx312,by simp only;omega,by simp only [List.length_append,List.length_cons,List.length_nil];omega,ha12.own,?_⟩ (by simp only;omega)
  intro i y hy hik
  by_cases e:i=k
  ·subst e
   exact ⟨_,by simp only;rw [List.getElem?_append_right (by omega),hl3,Nat.sub_self];rfl,rfl,hn12⟩
  ·obtain ⟨r,h1,h2,h3⟩:=hW i y hy (by simp only at hik;omega)
   have h4:=h3.ext hx311
   exact ⟨r,by simp only;rw [List.getElem?_append_left (by simp only at hik;omega)];exact h1,h2,h4.kept ha12.grown (hO11.apartR h4 (by decide))⟩
 ·obtain rfl:k=cs.length:=by omega
  repeat' (first|refine R1 ?_|refine R2 ?_|(apply Za;exact rfl;all_goals (intro h;try (exfalso;omega)))|fail)
  all_goals try (exfalso;simp only at *;omega)
  refine Kr Tryz.results16 ?_
  exact ⟨po,co,ws,rfl,hl3,hO,hW,hx3⟩
open Go.V
attribute [local irreducible] Blk Own hcell Ao Ab Ak Ad Ap Aa Ag EqT Au
def Et:List UInt8→Nat
 | b :: c :: l=>if b=13∧c=10 then 0 else Et (c :: l)+1
 | _=>0
theorem OZ {cs:List UInt8} (h:cs.length≤1):Et cs=0:=by
 match cs,h with
 | [],_=>rfl
 | [_],_=>rfl
 | _ :: _ :: _,h=>simp at h
theorem Ny {cs:List UInt8} (h:cs.take 2=[13,10]):Et cs=0:=by
 match cs,h with
 | [],h=>simp at h
 | [_],h=>simp at h
 | b :: c :: l,h =>
  simp only [List.take_succ_cons,List.take_zero,List.cons.injEq,and_true] at h
  unfold Et
  rw [if_pos h]
theorem Qv {b c:UInt8} {l:List UInt8} (h:¬(b=13∧c=10)):Et (b :: c :: l)=Et (c :: l)+1:=by
 conv=>lhs;unfold Et
 rw [if_neg h]
theorem JK:∀{cs:List UInt8},(cs.drop (CZ cs)).take 2=[13,10]→Et cs=CZ cs
 | [],h=>by simp [CZ] at h
 | b :: l,h=>by
  by_cases hb:CP b=true
  ·have e:CZ (b :: l)=0:=if_pos hb
   rw [e] at h ⊢
   exact Ny h
  ·have e:CZ (b :: l)=CZ l+1:=if_neg hb
   rw [e] at h ⊢
   rw [List.drop_succ_cons] at h
   have ih:=JK h
   match l,h with
   | [],h=>simp at h
   | c :: l,h =>
    rw [Qv (fun hh=>hb (by rw [hh.1];decide)),ih]
theorem Iu {cs:List UInt8} (h:cs.length≤Et cs+1∨Et cs=0):Bt cs=.none:=by
 by_cases hl:(cs.drop (CZ cs)).take 2=[13,10]
 ·have h1:=JK hl
  have h2:=TC hl
  exact Hu (.inl (by omega))
 ·exact Hu (.inr hl)
def Plain (m:UInt8) (s:List UInt8):Prop:=CP m=false∧∀b∈s,CP b=false
theorem CJ {cs:List UInt8} {m:UInt8} {s r:List UInt8} (hc:cs=(m :: s)++13 :: 10 :: r) (he:Et cs=s.length+1):(Plain m s→Bt cs=BS m s r (s.length+3))∧(¬Plain m s→Bt cs=.none):=by
 constructor
 ·intro hp
  have e:cs=(m :: (s++Bp))++r:=by rw [hc];simp [Bp]
  rw [e]
  exact Dg hp.1 hp.2
 ·intro hn
  have hlt:¬s.length+1≤CZ cs:=fun hle=>hn (by
   have h1:=Qr cs _ hle
   have h2:cs.take (s.length+1)=m :: s:=by rw [hc];exact List.take_left' rfl
   rw [h2] at h1
   exact ⟨h1 m (by simp),fun b hb=>h1 b (List.mem_cons_of_mem _ hb)⟩)
  refine Hu (.inr fun hl=>?_)
  have:=JK hl
  omega
theorem LH {cs:List UInt8} {m:UInt8} {s r:List UInt8} (hc:cs=(m :: s)++13 :: 10 :: r) (he:Et cs=s.length+1) (h:Plain m s→BS m s r (s.length+3)=.none):Bt cs=.none:=by
 by_cases hp:Plain m s
 ·rw [(CJ hc he).1 hp,h hp]
 ·exact (CJ hc he).2 hp
theorem LW {m:UInt8} {s:List UInt8} {n:Int} (hm:CP m=false) (h:Cq (Af s) n):Plain m s:=by
 refine ⟨hm,fun b hb=>?_⟩
 have e:s=Lib.itoa n:=by
  have h1:=congrArg (fun x:ByteArray=>x.data.toList) h.2
  simp only [CB] at h1
  rw [h1]
  unfold Af
  simp
 rw [e] at hb
 exact Ew n b hb
theorem EG {m:UInt8} {s:List UInt8} (hm:CP m=false):Plain m s ↔ EU (Af s)=true:=by
 have e:(Af s).data.toList=s:=by unfold Af;simp
 constructor
 ·intro h
  unfold EU
  rw [e,List.all_eq_true]
  intro b hb
  have:=h.2 b hb
  unfold CP at this
  simp only [Bool.or_eq_false_iff,beq_eq_false_iff_ne] at this
  simp [this.1,this.2]
 ·intro h
  exact ⟨hm,fun b hb=>Hq h b (by rw [e];exact hb)⟩
theorem XG {s:List UInt8} (n:Int) (h:Cq (Af s) n):Af s=⟨#[45,49]⟩ ↔ n = -1:=by
 have e:CK (-1)=⟨#[45,49]⟩:=by decide +kernel
 constructor
 ·intro h1
  exact LJ h ⟨by unfold AC;omega,by rw [h1,e]⟩
 ·intro h1
  rw [← h.2,h1,e]
theorem Wm {s:List UInt8} (h:Af s=⟨#[45,49]⟩):Cq (Af s) (-1):=⟨by unfold AC;omega,by rw [h];decide +kernel⟩
theorem Gz {kd:Int} {s:ByteArray} {w:World} (hkd:kd=0∨kd=1) (hs:s.size≤maxLen) (hnb:EU s=true):Ctr Tryz.prog 36 [.agg (Aq.enc (Av kd s 0)).toArray,.int .i64 0] w (fun v w'=>v=.bool true∧Ext w w'):=by
 simp only [maxLen] at hs
 have hb:=(Uw s).1 hnb
 rcases hkd with rfl|rfl
 all_goals
  refine Ac Tryz.func36 Tryz.ntmps36 rfl rfl rfl ?_
  repeat' (refine R1 ?_)
  refine Q1 ?_;refine Q8 ?_;intro a1 w1 ha1 hA1 hx1 hs1
  replace hA1:Blk w1.heap a1 33 [.int .i64 _,.string s,.int .i64 0,.slice none 0 0]:=hA1
  repeat' (first|refine R1 ?_|(refine Q1 ?_;first|(refine Q2 (hu:=by (first|exact T.f33_0|exact T.f33_3|exact T.f33_2)) ?_)|(refine Q3 (hu:=by (first|exact T.p3|exact T.p31)) ?_)|(refine Q6 (hu:=T.s31) ?_))|refine R2 ?_|fail)
  all_goals try (exfalso;omega)
  refine Zh (ι:=Nat) (fun k=>[(1,.int .i64 0),(2,.pointer (some (adr (bx a1) 0))),(5,.int .i64 (k:Int))])
   (fun k w'=>w1=w'∧k≤s.size) (fun k=>s.size - k) 0 ⟨rfl,rfl,rfl,trivial⟩ ⟨rfl,Nat.zero_le _⟩ ?_
  rintro k _ ⟨rfl,hk⟩
  by_cases hlt:k<s.size
  ·have h2:=hb k hlt
   have hbn:¬((BA s ((k:Int).toNat)).toNat:Int)=13∧¬((BA s ((k:Int).toNat)).toNat:Int)=10:=by
    rw [Int.toNat_natCast]
    constructor
    ·intro e;exact h2.1 (UInt8.toNat_inj.1 (by show (BA s k).toNat=13;omega))
    ·intro e;exact h2.2 (UInt8.toNat_inj.1 (by show (BA s k).toNat=10;omega))
   repeat' (first|refine R1 ?_|(refine Q1 ?_;first|(refine Q2 (hu:=by (first|exact T.f33_0|exact T.f33_1)) ?_)|(refine Q3 (hu:=by (first|exact T.p3|exact T.p9)) ?_)|refine Q17 T.str9 ?_|refine Q91 T.str9 ?_)|refine R2 ?_|(apply Za;exact rfl;all_goals (intro h;try (exfalso;omega)))|((fail_if_success (refine Q1 ?_));apply Zb;exact rfl;exact rfl;all_goals (intro h;try (exfalso;omega)))|fail)
   all_goals try (exfalso;omega)
   exact Zc (k+1) ⟨rfl,rfl,rfl,trivial⟩ ⟨rfl,by omega⟩ (by omega)
  ·repeat' (first|refine R1 ?_|(refine Q1 ?_;first|(refine Q2 (hu:=by (first|exact T.f33_0|exact T.f33_1)) ?_)|(refine Q3 (hu:=by (first|exact T.p3|exact T.p9)) ?_)|refine Q17 T.str9 ?_)|refine R2 ?_|((fail_if_success (refine Q1 ?_));apply Zb;exact rfl;exact rfl;all_goals (intro h;try (exfalso;omega)))|fail)
   all_goals try (exfalso;omega)
   refine Zh (ι:=Unit) (fun _=>[(2,.pointer (some (adr (bx a1) 0))),(6,.int .i64 0)]) (fun _ w'=>w1=w') (fun _=>0) () ⟨rfl,rfl,trivial⟩ rfl ?_
   rintro _ _ rfl
   repeat' (first|refine R1 ?_|(refine Q1 ?_;first|(refine Q2 (hu:=T.f33_3) ?_)|(refine Q3 (hu:=T.p31) ?_)|(refine Q6 (hu:=T.s31) ?_))|refine R2 ?_|fail)
   all_goals try (exfalso;omega)
   refine Kr Tryz.results36 ?_
   exact ⟨rfl,hx1⟩
def RefLf (w:World) (d:Nat) (bs:List UInt8) (k:Nat) (v:Value) (w':World):Prop :=
 Ext w w'∧((∃t j r,rdT d (bs.drop k)=some (t,j)∧v=.tuple #[.agg (Aq.enc r).toArray,.int .i64 ((k+j:Nat):Int)]∧Cc (veil (fun q=>q<w.heap.size) w'.heap) (d+1) r t) ∨
 (rdT d (bs.drop k)=none∧v=.tuple #[.agg (Aq.enc zRep).toArray,.int .i64 (-1)]))
theorem MU {w:World} {k:Nat} {p:Option Addr} {c:Nat} {bs:List UInt8} (hk:k≤bs.length) (hbs:bs.length≤1000000000) (hC:Sl w.heap Ai p c bs) (hgd:Bt (bs.drop k)≠.none) (h42:∀m,bs[k]?=some m→m≠42) :
  Ctr Tryz.prog 20 [.slice p bs.length c,.int .i64 (k:Int),.int .i64 ((4:Nat):Int)] w (RefLf w 4 bs k):=by
 have hok:=hC.ok
 have hle:=hok.le
 have n1:=hC.bound
 obtain ⟨cs,hcs⟩:∃cs,bs.drop k=cs:=⟨_,rfl⟩
 rw [hcs] at hgd
 have hcl:cs.length=bs.length - k:=by rw [← hcs,List.length_drop]
 have hcap:bs.length≤maxLen:=Nat.le_trans hle hok.cap
 have hget:∀j,cs[j]?=bs[k+j]?:=fun j=>by rw [← hcs,List.getElem?_drop]
 refine Ac Tryz.func20 Tryz.ntmps20 rfl rfl rfl ?_
 repeat' (refine R1 ?_)
 refine Q1 ?_;refine Q7 T.zero33 ?_;intro a6 w1 ha6 hA6 hx1 hs1
 replace hA6:Blk w1.heap a6 33 (Aq.enc zRep):=hA6
 repeat' (first|refine R1 ?_|refine R2 ?_|fail)
 refine Zh (ι:=Nat) (fun q=>[(0,.slice p bs.length c),(1,.int .i64 (k:Int)),(2,.int .i64 ((4:Nat):Int)),(6,.pointer (some (adr (bx a6) 0))),(8,.int .i64 ((k+q:Nat):Int))])
  (fun q w'=>Ext w1 w'∧Et cs=q+Et (cs.drop q)∧q≤cs.length) (fun q=>cs.length - q) 0 ⟨rfl,rfl,rfl,rfl,rfl,trivial⟩ ⟨Kz,by simp,Nat.zero_le _⟩ ?_
 rintro q w2 ⟨hx2,hcr,hq⟩
 have hA2:=hA6.ext hx2
 have hx02:Ext w w2:=hx1.trans hx2
 have hC2:=hC.ext hx02
 have hz2:=hx02.size
 have l6:=hA6.lt
 refine Zn [(0,.slice p bs.length c),(1,.int .i64 (k:Int)),(2,.int .i64 ((4:Nat):Int)),(6,.pointer (some (adr (bx a6) 0))),(8,.int .i64 ((k+q:Nat):Int))] ⟨rfl,rfl,rfl,rfl,rfl,trivial⟩ ?_
 obtain ⟨e,he⟩:∃e,e=k+q:=⟨_,rfl⟩
 rw [← he]
 by_cases hf:e+1<bs.length
 rotate_left
 ·have hno:Bt cs=.none:=Iu (.inl (by
   rw [OZ (cs:=cs.drop q) (by rw [List.length_drop];omega)] at hcr
   omega))
  exact absurd hno hgd
 obtain ⟨x,hx⟩:=Aj (xs:=bs) (k:=e) (by omega)
 obtain ⟨y,hy⟩:=Aj (xs:=bs) (k:=e+1) hf
 have hcx:cs[q]?=some x:=by rw [hget,← he];exact hx
 have hcy:cs[q+1]?=some y:=by rw [hget,show k+(q+1)=e+1 by omega];exact hy
 have hdq:cs.drop q=x :: y :: cs.drop (q+2):=by rw [drop_at hcx,drop_at hcy]
 rw [hdq] at hcr
 by_cases hpr:x=13∧y=10
 rotate_left
 ·rw [Qv hpr] at hcr
  by_cases hx13:x=13
  ·have hy10:¬(y.toNat:Int)=10:=FM (c:=10) (fun h=>hpr ⟨hx13,h⟩)
   have hxi:(x.toNat:Int)=13:=by rw [hx13];rfl
   repeat' (first|refine R1 ?_|(refine Q1 ?_;first|(refine Q10 T.s40 hok (q:=e) (hj:=by (first|exact rfl|omega)) ?_)|(refine Q9 T.p5 (q:=e) (e:=Ai) (hs:=hC2) (hq:=hx) ?_)|(refine Q10 T.s40 hok (q:=e+1) (hj:=by (first|exact rfl|omega)) ?_)|(refine Q9 T.p5 (q:=e+1) (e:=Ai) (hs:=hC2) (hq:=hy) ?_)|(refine Q6 (hu:=T.s40) ?_))|refine R2 ?_|(apply Za;exact rfl;all_goals (intro h;try (exfalso;omega)))|((fail_if_success (refine Q1 ?_));apply Zb;exact rfl;exact rfl;all_goals (intro h;try (exfalso;omega)))|fail)
   all_goals try (exfalso;omega)
   all_goals exact Zc (q+1) ⟨rfl,rfl,rfl,rfl,(by show some (Value.int .i64 _)=some (Value.int .i64 _);congr 2;omega),trivial⟩ ⟨Kz,by rw [drop_at hcy];show Et cs=q+1+Et (y :: cs.drop (q+2));omega,by omega⟩ (by omega)
  ·have hxi:¬(x.toNat:Int)=13:=FM (c:=13) hx13
   repeat' (first|refine R1 ?_|(refine Q1 ?_;first|(refine Q10 T.s40 hok (q:=e) (hj:=by (first|exact rfl|omega)) ?_)|(refine Q9 T.p5 (q:=e) (e:=Ai) (hs:=hC2) (hq:=hx) ?_)|(refine Q6 (hu:=T.s40) ?_))|refine R2 ?_|((fail_if_success (refine Q1 ?_));apply Zb;exact rfl;exact rfl;all_goals (intro h;try (exfalso;omega)))|fail)
   all_goals try (exfalso;omega)
   all_goals exact Zc (q+1) ⟨rfl,rfl,rfl,rfl,(by show some (Value.int .i64 _)=some (Value.int .i64 _);congr 2;omega),trivial⟩ ⟨Kz,by rw [drop_at hcy];show Et cs=q+1+Et (y :: cs.drop (q+2));omega,by omega⟩ (by omega)
 have hxi:(x.toNat:Int)=13:=by rw [hpr.1];rfl
 have hyi:(y.toNat:Int)=10:=by rw [hpr.2];rfl
 have hcr0:Et (x :: y :: cs.drop (q+2))=0:=Ny (by rw [hpr.1,hpr.2];rfl)
 rw [hcr0,Nat.add_zero] at hcr
 by_cases hq0:q=0
 ·have hno:Bt cs=.none:=Iu (.inr (by omega))
  exact absurd hno hgd
 obtain ⟨m,s,hms⟩:∃m s,cs.take q=m :: s:=by
  cases e1:cs.take q with
  | nil=>have:=congrArg List.length e1;rw [List.length_take,List.length_nil] at this;omega
  | cons m s=>exact ⟨m,s,rfl⟩
 have hsl:s.length+1=q:=by
  have:=congrArg List.length hms
  rw [List.length_take,List.length_cons] at this
  omega
 obtain ⟨k1,hk1⟩:∃k1,k1=k+(s.length+3):=⟨_,rfl⟩
 have hk1e:k1=e+2:=by omega
 have hdk1:bs.drop k1=cs.drop (q+2):=by
  have e1:k1=k+(q+2):=by omega
  rw [e1,← List.drop_drop,hcs]
 have hcd:cs=(m :: s)++13 :: 10 :: bs.drop k1:=by
  rw [← hms,hdk1,← hpr.1]
  conv=>lhs;rw [← List.take_append_drop q cs,hdq]
  rw [hpr.2]
 have hce:Et cs=s.length+1:=by omega
 have hms2:(Af (m :: s)).size=s.length+1:=by rw [BR];rfl
 have hss:(Af s).size=s.length:=BR s
 have hm:bs[k]?=some m:=by
  have h1:(cs.take q)[0]?=some m:=by rw [hms];rfl
  rw [List.getElem?_take,if_pos (by omega),hget,Nat.add_zero] at h1
  exact h1
 have hS:Sl w2.heap Ai (AP p c (k+1) 1) (c - (k+1)) s:=by
  have h1:=(hC2.drop (l:=k+1) (by omega)).take (q - 1)
  have h2:(bs.drop (k+1)).take (q - 1)=s:=by
   have h3:=congrArg (List.drop 1) hms
   rw [List.drop_take,← hcs,List.drop_drop,List.drop_succ_cons,List.drop_zero] at h3
   exact h3
  rw [h2] at h1
  exact h1
 have hL:(bs.drop k1).length=bs.length - k1:=by simp
 have hU4:∀w',Ext w2 w'→Sl w'.heap Ai (AP p c (k+1) 1) (c - (k+1)) s:=fun w' h=>hS.ext h
 have hpar:∃n b,∀w',Ctr Tryz.prog 35 [.string (Af s)] w' (fun r w''=>r=.tuple #[.int .i64 n,.bool b]∧Ext w' w''):=by
  by_cases hn:∃n,Cq (Af s) n
  ·obtain ⟨n,hn⟩:=hn
   exact ⟨n,true,fun w'=>EJ hn⟩
  ·exact ⟨0,false,fun w'=>SA (fun n h=>hn ⟨n,h⟩)⟩
 by_cases m0:m=43
 ·have hmm:(m.toNat:Int)=43:=by rw [m0];rfl
  obtain ⟨pn,pb,hpar⟩:=hpar
  repeat' (first|refine R1 ?_|(refine Q1 ?_;first|(refine Q10 T.s40 hok (q:=e) (hj:=by (first|exact rfl|omega)) ?_)|(refine Q9 T.p5 (q:=e) (e:=Ai) (hs:=hC2) (hq:=hx) ?_)|(refine Q10 T.s40 hok (q:=e+1) (hj:=by (first|exact rfl|omega)) ?_)|(refine Q9 T.p5 (q:=e+1) (e:=Ai) (hs:=hC2) (hq:=hy) ?_)|(refine Q29 T.s40 (q:=k+1) (r:=e) ?_)|(refine Q30 T.s40 T.i5 T.str9 (bs:=s) (hs:=hS) ?_)|(refine Q4 (f:=35) (hc:=(hpar _)) ?_;rintro _ w3 ⟨rfl,hx3⟩;refine Kc ?_;replace hA2:=hA2.ext (Kx hx3))|(refine Q10 T.s40 hok (q:=k) (hj:=by (first|exact rfl|omega)) ?_)|(refine Q9 T.p5 (q:=k) (e:=Ai) (hs:=(hC2.ext Kz)) (hq:=hm) ?_)|(refine Q20 (.agg (Aq.enc (Av 0 (Af s) 0)).toArray) (Nr _ _) ?_)|(refine Q6 (hu:=T.s40) ?_))|refine R2 ?_|(apply Za;exact rfl;all_goals (intro h;try (exfalso;omega)))|((fail_if_success (refine Q1 ?_));apply Zb;exact rfl;exact rfl;all_goals (intro h;try (exfalso;omega)))|fail)
  have l63:=hA2.lt
  refine Q1 ?_;refine Q7 T.zero33 ?_;intro a13 w4 ha13 hA13 hx4 hs4
  replace hA2:=hA2.ext hx4
  skip
  refine Q1 ?_;refine Q5 T.z33 hA13 ?_;intro w5 hA5 hg5 hs5
  replace hA5:Blk w5.heap a13 33 (Aq.enc (Av 0 (Af s) 0)):=hA5
  have hx25:Ext w2 w5:=(show Ext w2 w4 from Kz).own hg5 (fun q hq=>by injection hq with hq;have:=hx3.size;omega)
  replace hA2:=hA2.grown hg5 (fun e=>by injection e;omega)
  cases hnb:EU (Af s) with
  | true =>
   have hrr:=fun w'=>Gz (w:=w') (.inl rfl) (by omega) hnb
   repeat' (first|refine R1 ?_|(refine Q1 ?_;first|(refine Q10 T.s40 hok (q:=k) (hj:=by (first|exact rfl|omega)) ?_)|(refine Q9 T.p5 (q:=k) (e:=Ai) (hs:=(hC2.ext Kz)) (hq:=hm) ?_)|(refine Q4 (f:=36) (hc:=hrr _) ?_;rintro _ w6 ⟨rfl,hx6⟩;refine Kc ?_;replace hA2:=hA2.ext (Kx hx6);replace hA5:=hA5.ext (Kx hx6))|refine Q11 T.a33 ?_)|refine R2 ?_|(apply Za;exact rfl;all_goals (intro h;try (exfalso;omega)))|fail)
   refine Q1 ?_;refine Q5 T.z33 hA2 ?_;intro wf hAf hgf hsf
   replace hAf:Blk wf.heap a6 33 (Aq.enc (Av 0 (Af s) 0)):=hAf
   have xf:Ext w wf:=(show Ext w w6 from Kz).own hgf (fun q hq=>by injection hq with hq;omega)
   repeat' (first|refine R1 ?_|refine R2 ?_|fail)
   refine Ze Tryz.results20 ⟨_,_,_,rfl,rfl,Ae T.a33 (by assumption) rfl,_,_,rfl,rfl,rfl⟩ ?_
   refine ⟨xf,.inl ⟨.mk 0 (Af s) 0 [],s.length+3,Av 0 (Af s) 0,?_,(by rw [← hk1,hk1e];rfl),Gs (by omega) VK⟩⟩
   rw [hcs]
   exact DW (((CJ hcd hce).1 ((EG (by rw [m0];decide)).2 hnb)).trans (by unfold BS;rw [if_pos m0]))
  | false =>
   exact absurd ((CJ hcd hce).2 (fun h=>by rw [(EG (by rw [m0];decide)).1 h] at hnb;cases hnb)) hgd
 have hm0:¬(m.toNat:Int)=43:=FM m0
 by_cases m1:m=45
 ·have hmm:(m.toNat:Int)=45:=by rw [m1];rfl
  obtain ⟨pn,pb,hpar⟩:=hpar
  repeat' (first|refine R1 ?_|(refine Q1 ?_;first|(refine Q10 T.s40 hok (q:=e) (hj:=by (first|exact rfl|omega)) ?_)|(refine Q9 T.p5 (q:=e) (e:=Ai) (hs:=hC2) (hq:=hx) ?_)|(refine Q10 T.s40 hok (q:=e+1) (hj:=by (first|exact rfl|omega)) ?_)|(refine Q9 T.p5 (q:=e+1) (e:=Ai) (hs:=hC2) (hq:=hy) ?_)|(refine Q29 T.s40 (q:=k+1) (r:=e) ?_)|(refine Q30 T.s40 T.i5 T.str9 (bs:=s) (hs:=hS) ?_)|(refine Q4 (f:=35) (hc:=(hpar _)) ?_;rintro _ w3 ⟨rfl,hx3⟩;refine Kc ?_;replace hA2:=hA2.ext (Kx hx3))|(refine Q10 T.s40 hok (q:=k) (hj:=by (first|exact rfl|omega)) ?_)|(refine Q9 T.p5 (q:=k) (e:=Ai) (hs:=(hC2.ext Kz)) (hq:=hm) ?_)|(refine Q20 (.agg (Aq.enc (Av 0 (Af s) 0)).toArray) (Nr _ _) ?_)|(refine Q6 (hu:=T.s40) ?_))|refine R2 ?_|(apply Za;exact rfl;all_goals (intro h;try (exfalso;omega)))|((fail_if_success (refine Q1 ?_));apply Zb;exact rfl;exact rfl;all_goals (intro h;try (exfalso;omega)))|fail)
  have l63:=hA2.lt
  refine Q1 ?_;refine Q7 T.zero33 ?_;intro a13 w4 ha13 hA13 hx4 hs4
  replace hA2:=hA2.ext hx4
  skip
  refine Q1 ?_;refine Q5 T.z33 hA13 ?_;intro w5 hA5 hg5 hs5
  replace hA5:Blk w5.heap a13 33 (Aq.enc (Av 0 (Af s) 0)):=hA5
  have hx25:Ext w2 w5:=(show Ext w2 w4 from Kz).own hg5 (fun q hq=>by injection hq with hq;have:=hx3.size;omega)
  replace hA2:=hA2.grown hg5 (fun e=>by injection e;omega)
  repeat' (first|refine R1 ?_|(refine Q1 ?_;first|(refine Q10 T.s40 hok (q:=k) (hj:=by (first|exact rfl|omega)) ?_)|(refine Q9 T.p5 (q:=k) (e:=Ai) (hs:=(hC2.ext Kz)) (hq:=hm) ?_)|(refine Q2 (hu:=T.f33_0) ?_))|refine R2 ?_|(apply Za;exact rfl;all_goals (intro h;try (exfalso;omega)))|fail)
  refine Q1 ?_;refine Q5 T.z3 hA5 ?_;intro w7 hA7 hg7 hs7
  replace hA7:Blk w7.heap a13 33 (Aq.enc (Av 1 (Af s) 0)):=hA7
  replace hx25:Ext w2 w7:=hx25.own hg7 (fun q hq=>by injection hq with hq;have:=hx3.size;omega)
  replace hA2:=hA2.grown hg7 (fun e=>by injection e;omega)
  cases hnb:EU (Af s) with
  | true =>
   have hrr:=fun w'=>Gz (w:=w') (.inr rfl) (by omega) hnb
   repeat' (first|refine R1 ?_|(refine Q1 ?_;first|(refine Q4 (f:=36) (hc:=hrr _) ?_;rintro _ w6 ⟨rfl,hx6⟩;refine Kc ?_;replace hA2:=hA2.ext (Kx hx6);replace hA7:=hA7.ext (Kx hx6))|refine Q11 T.a33 ?_)|refine R2 ?_|fail)
   refine Q1 ?_;refine Q5 T.z33 hA2 ?_;intro wf hAf hgf hsf
   replace hAf:Blk wf.heap a6 33 (Aq.enc (Av 1 (Af s) 0)):=hAf
   have xf:Ext w wf:=(show Ext w w6 from Kz).own hgf (fun q hq=>by injection hq with hq;omega)
   repeat' (first|refine R1 ?_|refine R2 ?_|fail)
   refine Ze Tryz.results20 ⟨_,_,_,rfl,rfl,Ae T.a33 (by assumption) rfl,_,_,rfl,rfl,rfl⟩ ?_
   refine ⟨xf,.inl ⟨.mk 1 (Af s) 0 [],s.length+3,Av 1 (Af s) 0,?_,(by rw [← hk1,hk1e];rfl),Gs (by omega) VK⟩⟩
   rw [hcs]
   exact DW (((CJ hcd hce).1 ((EG (by rw [m1];decide)).2 hnb)).trans (by unfold BS;rw [if_neg m0,if_pos m1]))
  | false =>
   exact absurd ((CJ hcd hce).2 (fun h=>by rw [(EG (by rw [m1];decide)).1 h] at hnb;cases hnb)) hgd
 have hm1:¬(m.toNat:Int)=45:=FM m1
 clear hpar
 by_cases hnn:∃n,Cq (Af s) n
 rotate_left
 ·have hnn':∀n,¬Cq (Af s) n:=fun n hn=>hnn ⟨n,hn⟩
  have hno:Bt cs=.none:=LH hcd hce (fun _=>by unfold BS;rw [if_neg m0,if_neg m1,Kq hnn'])
  have hnm:¬Af s=⟨#[45,49]⟩:=fun h=>hnn' _ (Wm h)
  exact absurd hno hgd
 obtain ⟨n,hIs⟩:=hnn
 have hfn:=hIs.1
 unfold AC at hfn
 have hnum:=FW hIs
 have hm1n:=XG n hIs
 by_cases m2:m=58
 ·have hmm:(m.toNat:Int)=58:=by rw [m2];rfl
  have hpl:Plain m s:=LW (by rw [m2];decide) hIs
  repeat' (first|refine R1 ?_|(refine Q1 ?_;first|(refine Q10 T.s40 hok (q:=e) (hj:=by (first|exact rfl|omega)) ?_)|(refine Q9 T.p5 (q:=e) (e:=Ai) (hs:=hC2) (hq:=hx) ?_)|(refine Q10 T.s40 hok (q:=e+1) (hj:=by (first|exact rfl|omega)) ?_)|(refine Q9 T.p5 (q:=e+1) (e:=Ai) (hs:=hC2) (hq:=hy) ?_)|(refine Q29 T.s40 (q:=k+1) (r:=e) ?_)|(refine Q30 T.s40 T.i5 T.str9 (bs:=s) (hs:=hS) ?_)|(refine Q4 (f:=35) (hc:=(EJ hIs)) ?_;rintro _ w3 ⟨rfl,hx3⟩;refine Kc ?_;replace hA2:=hA2.ext (Kx hx3))|(refine Q10 T.s40 hok (q:=k) (hj:=by (first|exact rfl|omega)) ?_)|(refine Q9 T.p5 (q:=k) (e:=Ai) (hs:=(hC2.ext Kz)) (hq:=hm) ?_)|(refine Q20 (.agg (Aq.enc (Av 2 ⟨#[]⟩ n)).toArray) (WU _ _) ?_)|(refine Q6 (hu:=T.s40) ?_))|refine R2 ?_|(apply Za;exact rfl;all_goals (intro h;try (exfalso;omega)))|((fail_if_success (refine Q1 ?_));apply Zb;exact rfl;exact rfl;all_goals (intro h;try (exfalso;omega)))|fail)
  refine Q1 ?_;refine Q5 T.z33 hA2 ?_;intro wf hAf hgf hsf
  replace hAf:Blk wf.heap a6 33 (Aq.enc (Av 2 ⟨#[]⟩ n)):=hAf
  have xf:Ext w wf:=(show Ext w w3 from Kz).own hgf (fun q hq=>by injection hq with hq;omega)
  repeat' (first|refine R1 ?_|refine R2 ?_|fail)
  refine Ze Tryz.results20 ⟨_,_,_,rfl,rfl,Ae T.a33 (by assumption) rfl,_,_,rfl,rfl,rfl⟩ ?_
  refine ⟨xf,.inl ⟨.mk 2 ⟨#[]⟩ n [],s.length+3,Av 2 ⟨#[]⟩ n,?_,(by rw [← hk1,hk1e];rfl),Gs NZ hfn⟩⟩
  rw [hcs]
  exact DW (((CJ hcd hce).1 hpl).trans (by unfold BS;rw [if_neg m0,if_neg m1,hnum];simp only;rw [if_pos m2]))
 have hm2:¬(m.toNat:Int)=58:=FM m2
 by_cases m3:m=36
 ·have hmm:(m.toNat:Int)=36:=by rw [m3];rfl
  have hpl:Plain m s:=LW (by rw [m3];decide) hIs
  have hrd:=(CJ hcd hce).1 hpl
  by_cases hn1:n = -1
  ·have hm1y:=hm1n.2 hn1
   repeat' (first|refine R1 ?_|(refine Q1 ?_;first|(refine Q10 T.s40 hok (q:=e) (hj:=by (first|exact rfl|omega)) ?_)|(refine Q9 T.p5 (q:=e) (e:=Ai) (hs:=hC2) (hq:=hx) ?_)|(refine Q10 T.s40 hok (q:=e+1) (hj:=by (first|exact rfl|omega)) ?_)|(refine Q9 T.p5 (q:=e+1) (e:=Ai) (hs:=hC2) (hq:=hy) ?_)|(refine Q29 T.s40 (q:=k+1) (r:=e) ?_)|(refine Q30 T.s40 T.i5 T.str9 (bs:=s) (hs:=hS) ?_)|(refine Q4 (f:=35) (hc:=(EJ hIs)) ?_;rintro _ w3 ⟨rfl,hx3⟩;refine Kc ?_;replace hA2:=hA2.ext (Kx hx3))|(refine Q10 T.s40 hok (q:=k) (hj:=by (first|exact rfl|omega)) ?_)|(refine Q9 T.p5 (q:=k) (e:=Ai) (hs:=(hC2.ext Kz)) (hq:=hm) ?_)|(refine Q20 (.agg (Aq.enc (Av 4 ⟨#[]⟩ 0)).toArray) (bldK _) ?_)|(refine Q35 (he:=hm1y) ?_)|(refine Q6 (hu:=T.s40) ?_))|refine R2 ?_|(apply Za;exact rfl;all_goals (intro h;try (exfalso;omega)))|((fail_if_success (refine Q1 ?_));apply Zb;exact rfl;exact rfl;all_goals (intro h;try (exfalso;omega)))|fail)
   refine Q1 ?_;refine Q5 T.z33 hA2 ?_;intro wf hAf hgf hsf
   replace hAf:Blk wf.heap a6 33 (Aq.enc (Av 4 ⟨#[]⟩ 0)):=hAf
   have xf:Ext w wf:=(show Ext w w3 from Kz).own hgf (fun q hq=>by injection hq with hq;omega)
   repeat' (first|refine R1 ?_|refine R2 ?_|fail)
   refine Ze Tryz.results20 ⟨_,_,_,rfl,rfl,Ae T.a33 (by assumption) rfl,_,_,rfl,rfl,rfl⟩ ?_
   refine ⟨xf,.inl ⟨.mk 4 ⟨#[]⟩ 0 [],s.length+3,Av 4 ⟨#[]⟩ 0,?_,(by rw [← hk1,hk1e];rfl),Gs NZ VK⟩⟩
   rw [hcs]
   exact DW (hrd.trans (by unfold BS;rw [if_neg m0,if_neg m1,hnum];simp only;rw [if_neg m2,if_pos m3,if_pos hn1]))
  ·have hm1x:¬Af s=⟨#[45,49]⟩:=fun h=>hn1 (hm1n.1 h)
   have hbad:¬(0≤n∧n≤((bs.drop k1).length:Int)∧((bs.drop k1).drop n.toNat).take 2=[13,10])→Bt cs=.none:=fun h=>hrd.trans (by unfold BS;rw [if_neg m0,if_neg m1,hnum];simp only;rw [if_neg m2,if_pos m3,if_neg hn1,if_neg h])
   by_cases hin:0≤n∧n≤(bs.length:Int)∧(k1:Int)+n+2≤bs.length
   rotate_left
   ·have hno:Bt cs=.none:=hbad (fun h=>hin (by
     have h1:=congrArg List.length h.2.2
     simp only [List.length_take,List.length_drop,List.length_cons,List.length_nil] at h1
     omega))
    exact absurd hno hgd
   obtain ⟨u,hu⟩:∃u:Nat,n=(u:Int):=⟨n.toNat,by omega⟩
   subst hu
   obtain ⟨x2,hx2'⟩:=Aj (xs:=bs) (k:=k1+u) (by omega)
   obtain ⟨y2,hy2'⟩:=Aj (xs:=bs) (k:=k1+u+1) (by omega)
   have hdu:((bs.drop k1).drop ((u:Int)).toNat).take 2=[x2,y2]:=by
    rw [Int.toNat_natCast,List.drop_drop,drop_at hx2',drop_at hy2'];rfl
   by_cases hp2:x2=13∧y2=10
   ·have hx2i:(x2.toNat:Int)=13:=by rw [hp2.1];rfl
    have hy2i:(y2.toNat:Int)=10:=by rw [hp2.2];rfl
    have hok2:0≤(u:Int)∧(u:Int)≤((bs.drop k1).length:Int)∧((bs.drop k1).drop ((u:Int)).toNat).take 2=[13,10]:=⟨by omega,by omega,by rw [hdu,hp2.1,hp2.2]⟩
    have hS2:Sl w2.heap Ai (AP p c k1 1) (c - k1) ((bs.drop k1).take u):=(hC2.drop (l:=k1) (by omega)).take u
    have hsz:(Af ((bs.drop k1).take u)).size=u:=by rw [BR,List.length_take];omega
    repeat' (first|refine R1 ?_|(refine Q1 ?_;first|(refine Q10 T.s40 hok (q:=e) (hj:=by (first|exact rfl|omega)) ?_)|(refine Q9 T.p5 (q:=e) (e:=Ai) (hs:=hC2) (hq:=hx) ?_)|(refine Q10 T.s40 hok (q:=e+1) (hj:=by (first|exact rfl|omega)) ?_)|(refine Q9 T.p5 (q:=e+1) (e:=Ai) (hs:=hC2) (hq:=hy) ?_)|(refine Q29 T.s40 (q:=k+1) (r:=e) ?_)|(refine Q30 T.s40 T.i5 T.str9 (bs:=s) (hs:=hS) ?_)|(refine Q4 (f:=35) (hc:=(EJ hIs)) ?_;rintro _ w3 ⟨rfl,hx3⟩;refine Kc ?_;replace hA2:=hA2.ext (Kx hx3))|(refine Q10 T.s40 hok (q:=k) (hj:=by (first|exact rfl|omega)) ?_)|(refine Q9 T.p5 (q:=k) (e:=Ai) (hs:=(hC2.ext Kz)) (hq:=hm) ?_)|(refine Q10 T.s40 hok (q:=k1+u) (hj:=by (first|exact rfl|omega)) ?_)|(refine Q9 T.p5 (q:=k1+u) (e:=Ai) (hs:=(hC2.ext Kz)) (hq:=hx2') ?_)|(refine Q10 T.s40 hok (q:=k1+u+1) (hj:=by (first|exact rfl|omega)) ?_)|(refine Q9 T.p5 (q:=k1+u+1) (e:=Ai) (hs:=(hC2.ext Kz)) (hq:=hy2') ?_)|(refine Q29 T.s40 (q:=k1) (r:=k1+u) (hj:=by omega) ?_)|(refine Q30 T.s40 T.i5 T.str9 (bs:=(bs.drop k1).take u) (hm:=by (rw [List.length_take];omega)) (hs:=hS2.ext Kz) ?_)|(refine Q20 (.agg (Aq.enc (Av 3 (Af ((bs.drop k1).take u)) 0)).toArray) (Nr _ _) ?_)|(refine Q32 (he:=hm1x) ?_)|(refine Q6 (hu:=T.s40) ?_))|refine R2 ?_|(apply Za;exact rfl;all_goals (intro h;try (exfalso;omega)))|((fail_if_success (refine Q1 ?_));apply Zb;exact rfl;exact rfl;all_goals (intro h;try (exfalso;omega)))|fail)
    all_goals try (exfalso;omega)
    refine Q1 ?_;refine Q5 T.z33 hA2 ?_;intro wf hAf hgf hsf
    replace hAf:Blk wf.heap a6 33 (Aq.enc (Av 3 (Af ((bs.drop k1).take u)) 0)):=hAf
    have xf:Ext w wf:=(show Ext w w3 from Kz).own hgf (fun q hq=>by injection hq with hq;omega)
    repeat' (first|refine R1 ?_|refine R2 ?_|fail)
    refine Ze Tryz.results20 ⟨_,_,_,rfl,rfl,Ae T.a33 (by assumption) rfl,_,_,rfl,rfl,rfl⟩ ?_
    refine ⟨xf,.inl ⟨.mk 3 (Af ((bs.drop k1).take u)) 0 [],s.length+3+u+2,Av 3 (Af ((bs.drop k1).take u)) 0,?_,?_,Gs (by omega) VK⟩⟩
    ·rw [hcs]
     exact DW (hrd.trans (by unfold BS;rw [if_neg m0,if_neg m1,hnum];simp only;rw [if_neg m2,if_pos m3,if_neg hn1,if_pos hok2,Int.toNat_natCast]))
    ·rw [show ((k+(s.length+3+u+2):Nat):Int)=(e:Int)+2+(u:Int)+2 by omega]
     rfl
   ·have hno:Bt cs=.none:=hbad (fun h=>hp2 (by
     rw [hdu] at h
     simp only [List.cons.injEq,and_true] at h
     exact h.2.2))
    have hxy:¬(x2.toNat:Int)=13∨¬(y2.toNat:Int)=10:=by
     by_cases h1:x2=13
     ·exact .inr (FM (c:=10) (fun h2=>hp2 ⟨h1,h2⟩))
     ·exact .inl (FM (c:=13) h1)
    exact absurd hno hgd
 have hm3:¬(m.toNat:Int)=36:=FM m3
 by_cases m4:m=42
 ·exact absurd m4 (h42 m hm)
 ·have hno:Bt cs=.none:=LH hcd hce (fun _=>by unfold BS;rw [if_neg m0,if_neg m1,hnum];simp only;rw [if_neg m2,if_neg m3,if_neg (fun h=>m4 h.1)])
  exact absurd hno hgd
variable {l : List Oper}
variable {d : Option Nat} {g : Option (Nat × Bool)} {u : ByteArray}
theorem Q88 {a:List UInt8} {b:List UInt8} (h:G P n ops dr l (E.put d (.string (Af (a++b)))) w K) (hx:E.look x=some (.string s):=by exact rfl) (hy:E.look y=some (.string u):=by exact rfl) (ha:s=Af a) (hb:u=Af b) (hl:a.length+b.length≤9223372036854775807:=by (simp only [List.length_append,List.length_cons,List.length_nil];omega)) (hd:Ah n d=true:=by exact rfl):G1 P n ops dr ⟨d,.binOp .add t x y t',ty,pos,af,g⟩ l E w K:=by
 subst ha hb
 exact ZaT hx hy (by rw [Di,Di];simpa [Af] using hl) hd (by rw [Si];exact h)
structure Ni (w0 w:World) (B a:Nat) (p:Option Addr) (c:Nat) (bs:List UInt8):Prop where
 ext:Ext w0 w
 box:Blk w.heap a 40 [.slice p bs.length c]
 own:Go.V.Own w B 5 Ai p c bs
 h0:w0.heap.size≤a
 h1:a<B
 hB:B≤w.heap.size
theorem Ni.xt {w0 w w':World} {B a c:Nat} {p:Option Addr} {bs:List UInt8} (h:Ni w0 w B a p c bs) (hx:Ext w w'):Ni w0 w' B a p c bs :=
 ⟨h.ext.trans hx,h.box.ext hx,h.own.ext hx,h.h0,h.h1,Nat.le_trans h.hB hx.size⟩
theorem Ni.bx {w0 w w1:World} {B a c c':Nat} {p p':Option Addr} {bs bs':List UInt8} (h:Ni w0 w B a p c bs) (ha:App w w1 B 5 Ai p p' c' bs'):Blk w1.heap a 40 [.slice p bs.length c] :=
 h.box.grown ha.grown (fun e=>by have:=(h.own.ge a e).1;have:=h.h1;omega)
theorem Ni.app {w0 w w1 w2:World} {B a c c':Nat} {p p':Option Addr} {bs bs':List UInt8} (h:Ni w0 w B a p c bs) (ha:App w w1 B 5 Ai p p' c' bs') (hb:Blk w2.heap a 40 [.slice p' bs'.length c']) (hg:w1.grownBy w2 (some a)):Ni w0 w2 B a p' c' bs':=by
 have hge:=h.own.ge
 have hge1:=ha.own.ge
 have h0:=h.h0
 have h1:=h.h1
 have e1:Ext w0 w1:=h.ext.app ha (fun k hk=>by have:=(hge k hk).1;omega)
 exact ⟨e1.own hg (fun k hk=>by injection hk with hk;omega),hb,ha.own.kept hg (fun a' ha' e=>by injection e with e;have:=(hge1 a'.block (by rw [ha'];rfl)).1;omega),h0,h1,Nat.le_trans ha.base hg.size⟩
theorem Wp {l:List ByteArray} {i:Nat} {x:ByteArray} (h:l[i]?=some x):DV l.length++(l.take (i+1)).flatMap prW=DV l.length++(l.take i).flatMap prW++((36 :: dec x.size)++[13,10])++bytesOf x++[13,10]:=by
 rw [AJ h,List.flatMap_append]
 simp [prW]
theorem PS {l:List ByteArray} (hl:l.length≤128):∀{i:Nat},(∀w∈l.take i,w.size≤4096)→(DV l.length++(l.take i).flatMap prW).length≤1000000:=by
 intro i h
 have key:∀l:List ByteArray,(∀w∈l,w.size≤4096)→(l.flatMap prW).length≤l.length * 6000:=by
  intro l
  induction l with
  | nil=>intro _;simp
  | cons w l ih =>
   intro h
   have h1:=ih (fun x hx=>h x (by simp [hx]))
   have h2:=h w (by simp)
   have h3:=Ee (n:=w.size) (by omega)
   rw [List.flatMap_cons,List.length_append,List.length_cons]
   have h4:(prW w).length=(dec w.size).length+5+w.size:=by unfold prW;simp [Fy];omega
   omega
 have h1:=key _ h
 have h2:=Ee (n:=l.length) (by omega)
 have h3:(l.take i).length≤128:=by rw [List.length_take];omega
 unfold DV
 simp only [List.length_append,List.length_cons,List.length_nil]
 omega
theorem Uz {l:List ByteArray} (h:FE l):prC l=prB l:=if_pos h
theorem PR {l:List ByteArray} (h:¬FE l):prC l=[]:=if_neg h
theorem IP {q:Option Addr} {d:Nat} {l:List ByteArray} {w:World} (hS:Sl w.heap Ar q d l) :
  Ctr Tryz.prog 19 [.slice q l.length d] w (fun v w'=>Ext w w'∧v=.string (Af (prC l))):=by
 have hsb:=hS.bound
 have hok:=hS.ok
 refine Ac Tryz.func19 Tryz.ntmps19 rfl rfl rfl ?_
 by_cases h0:l.length=0
 ·have hn:¬FE l:=fun h=>h.pos (List.eq_nil_of_length_eq_zero h0)
  repeat' (first|refine R1 ?_|(refine Q1 ?_;(refine Q6 (hu:=T.s61) ?_))|refine R2 ?_|((fail_if_success (refine Q1 ?_));apply Zb;exact rfl;exact rfl;all_goals (intro h;try (exfalso;omega)))|fail)
  all_goals try (exfalso;omega)
  all_goals
   refine Kr Tryz.results19 ?_
   rw [PR hn]
   exact ⟨Kz,rfl⟩
 by_cases h128:128<l.length
 ·have hn:¬FE l:=fun h=>by have:=h.len;omega
  repeat' (first|refine R1 ?_|(refine Q1 ?_;(refine Q6 (hu:=T.s61) ?_))|refine R2 ?_|(apply Za;exact rfl;all_goals (intro h;try (exfalso;omega)))|((fail_if_success (refine Q1 ?_));apply Zb;exact rfl;exact rfl;all_goals (intro h;try (exfalso;omega)))|fail)
  all_goals try (exfalso;omega)
  all_goals
   refine Kr Tryz.results19 ?_
   rw [PR hn]
   exact ⟨Kz,rfl⟩
 have hss:(CK (l.length:Int)).size=(dec l.length).length:=by rw [QE];rfl
 have hsl:(CK (l.length:Int)).data.toList=dec l.length:=Uf _
 have hdl:=Ee (n:=l.length) (by omega)
 have eS:(⟨#[42]⟩:ByteArray)=Af [42]:=rfl
 have eC:(⟨#[13,10]⟩:ByteArray)=Af [13,10]:=rfl
 have eD:(⟨#[36]⟩:ByteArray)=Af [36]:=rfl
 have eI:∀n:Nat,CK (n:Int)=Af (dec n):=fun n=>rfl
 repeat' (first|refine R1 ?_|(refine Q1 ?_;first|(refine Q4 (f:=11) (hc:=Ck (by unfold AC;omega)) ?_;rintro _ w3 ⟨rfl,hx3⟩;refine Kc ?_)|(refine Q88 (ha:=by (first|exact eS|exact eC|exact eI _|exact rfl)) (hb:=by (first|exact eS|exact eC|exact eI _|exact rfl)) ?_)|(refine Q6 (hu:=T.s61) ?_))|refine R2 ?_|(apply Za;exact rfl;all_goals (intro h;try (exfalso;omega)))|((fail_if_success (refine Q1 ?_));apply Zb;exact rfl;exact rfl;all_goals (intro h;try (exfalso;omega)))|fail)
 all_goals try (exfalso;omega)
 all_goals
  refine Zh (ι:=Nat) (fun y=>[(0,.slice q l.length d),(3,.string (Af (DV l.length++(l.take y).flatMap prW))),(4,.int .i64 (y:Int))])
   (fun y w'=>Ext w w'∧y≤l.length∧∀x∈l.take y,x.size≤4096) (fun y=>l.length - y) 0 ⟨rfl,by simp [DV];rfl,rfl,trivial⟩ ⟨Kz,Nat.zero_le _,by simp⟩ ?_
  rintro i w5 ⟨hx5,hi,hsm⟩
  refine Zn [(0,.slice q l.length d),(3,.string (Af (DV l.length++(l.take i).flatMap prW))),(4,.int .i64 (i:Int))] ⟨rfl,rfl,rfl,trivial⟩ ?_
  have hlen5:=PS (l:=l) (by omega) hsm
  obtain ⟨bs,hbs⟩:∃bs,DV l.length++(l.take i).flatMap prW=bs:=⟨_,rfl⟩
  rw [hbs] at hlen5 ⊢
  have hS5:=hS.ext hx5
  by_cases hlt:i<l.length
  ·obtain ⟨x,hx⟩:=Aj hlt
   by_cases hxl:x.size≤4096
   ·have hd6:=Ee (n:=x.size) (by omega)
    have hsx:(bytesOf x).length=x.size:=Fy x
    have eX:x=Af (bytesOf x):=(NT x).symm
    repeat' (first|refine R1 ?_|(refine Q1 ?_;first|(refine Q10 T.s61 hok (q:=i) (h1:=hlt) ?_)|(refine Q9 T.p9 (q:=i) (e:=Ar) (hs:=hS5.ext Kz) (hq:=hx) ?_)|(refine Q4 (f:=11) (hc:=Ck (by unfold AC;omega)) ?_;rintro _ w6 ⟨rfl,hx6⟩;refine Kc ?_)|(refine Q88 (ha:=by (first|exact eD|exact eC|exact eI _|exact rfl)) (hb:=by (first|exact eD|exact eC|exact eI _|exact eX)) ?_)|(refine Q6 (hu:=T.s61) ?_)|refine Q17 T.str9 ?_)|refine R2 ?_|(apply Za;exact rfl;all_goals (intro h;try (exfalso;omega)))|refine Zf 1 [] [0,1,2,3,4,5,6,10,11,12,13,7,8,9,14,15,16] mixed (by decide +kernel) ?_|fail)
    all_goals try (exfalso;omega)
    all_goals
     refine Zc (i+1) ⟨rfl,?_,rfl,trivial⟩ ⟨Kz,hlt,fun y hy=>?_⟩ (by omega)
     ·rw [Wp hx,hbs]
      show some (Value.string (Af _))=_
      congr 3
      simp
     ·simp only [AJ hx] at hy
      rcases List.mem_append.1 hy with hy|hy
      ·exact hsm y hy
      ·rw [List.mem_singleton.1 hy];exact hxl
   ·have hn:¬FE l:=fun h=>hxl (h.words x (List.mem_of_getElem? hx))
    repeat' (first|refine R1 ?_|(refine Q1 ?_;first|(refine Q10 T.s61 hok (q:=i) (h1:=hlt) ?_)|(refine Q9 T.p9 (q:=i) (e:=Ar) (hs:=hS5.ext Kz) (hq:=hx) ?_)|(refine Q6 (hu:=T.s61) ?_)|refine Q17 T.str9 ?_)|refine R2 ?_|(apply Za;exact rfl;all_goals (intro h;try (exfalso;omega)))|fail)
    all_goals try (exfalso;omega)
    all_goals
     refine Kr Tryz.results19 ?_
     rw [PR hn]
     exact ⟨Kz,rfl⟩
  ·have hil:i=l.length:=by omega
   have hpo:FE l:=⟨fun e=>h0 (by rw [e];rfl),by omega,by rw [hil,List.take_of_length_le (Nat.le_refl _)] at hsm;exact hsm⟩
   rw [hil,List.take_of_length_le (Nat.le_refl _)] at hbs
   repeat' (first|refine R1 ?_|(refine Q1 ?_;(refine Q6 (hu:=T.s61) ?_))|refine R2 ?_|(apply Za;exact rfl;all_goals (intro h;try (exfalso;omega)))|fail)
   all_goals try (exfalso;omega)
   all_goals
    refine Kr Tryz.results19 ?_
    rw [Uz hpo]
    have hbs':prB l=bs:=hbs
    rw [hbs']
    exact ⟨Kz,rfl⟩
end Go.Proofs.YtkcolpfanmdmiaaGreatDoor
namespace Go.V
variable {l : List Oper}
variable {d : Option Nat} {g : Option (Nat × Bool)} {q : Nat}
theorem Q41 {v0:Value} {v:Value} (hr:∀w,(Instr.field t v0 q).run P w=.ok v w) (h:G P n ops dr l (E.put d v) w K) (hx:E.look x=some v0:=by exact rfl) (hd:Ah n d=true:=by exact rfl):G1 P n ops dr ⟨d,.field t x q,ty,pos,af,g⟩ l E w K :=
 Zd v hd (fun a ha w' _=>by simp [execOp,ha.eval hx,hr]) h
end Go.V
namespace Go.Proofs.YtkcolpfanmdmiaaGreatDoor
open Go.V Go.RowKit Go.Conc
theorem Ct.mono {g:Nat→Nat} {w:World} {x:Cn} {n n':Nat} {outs:List UInt8} {q:Bool} (h:Ct g w x n outs q) (hn:n≤n'):Ct g w x n' outs q:=by
 obtain ⟨l,pi,ci,ins,po,co,k1,k2,k3,k4,k5⟩:=h.ex
 exact ⟨l,pi,ci,ins,po,co,k1,k2,k3,Nat.le_trans k4 (Nat.mul_le_mul_right _ hn),Nat.le_trans k5 (Nat.mul_le_mul_right _ hn)⟩
structure Cs (g:Nat→Nat) (w:World) (N0 n:Nat) (cs:List Cn) (ou:Nat→List UInt8):Prop where
 len:cs.length≤8
 one:∀i x,cs[i]?=some x→(∃q,Ct g w x n (ou i) q)∧AV g w x.b x.ss x.cl x.rd x.qc none 0 [] #[]∧x.b=100 * (i+1)∧N0≤x.rd
theorem Cs.stp {ix:Nat} {T:List Nat} {g g':Nat→Nat} {w w':World} {N0 n:Nat} {cs:List Cn} {ou:Nat→List UInt8} (h:Cs g w N0 n cs ou) (s:Stq ix T g g' w w') (hT:∀t∈T,t<100∨t % 100=4):Cs g' w' N0 n cs ou:=by
 refine ⟨h.len,fun i x hx=>?_⟩
 obtain ⟨⟨q,h1⟩,h2,h3,h4⟩:=h.one i x hx
 exact ⟨⟨q,h1.stp s (fun e=>by have:=hT _ e;omega) (fun e=>by have:=hT _ e;omega)⟩,h2.stp s (fun e=>by have:=hT _ e;omega) (fun e=>by have:=hT _ e;omega),h3,h4⟩
theorem Cs.ext {g:Nat→Nat} {w w':World} {N0 n:Nat} {cs:List Cn} {ou:Nat→List UInt8} (h:Cs g w N0 n cs ou) (hx:Ext w w') (u:Nat):Cs (rt g w u) w' N0 n cs ou:=h.stp (ix:=0) (T:=[]) (Stq.of_ext hx u) (fun t ht=>by cases ht)
theorem QB (r:Nk) (w:World):(Instr.field 89 (.agg (Gm.enc r).toArray) 2).run Tryz.prog w=.ok (.slice r.op r.ol r.oc) w:=by kernel_rfl
theorem TZ (r:Bg) (w:World):(Instr.field 33 (.agg (Aq.enc r).toArray) 0).run Tryz.prog w=.ok (.int .i64 r.kind) w:=by kernel_rfl
theorem WW (r:Bg) (w:World):(Instr.field 33 (.agg (Aq.enc r).toArray) 1).run Tryz.prog w=.ok (.string r.s) w:=by kernel_rfl
theorem WV (r:Bg) (w:World):(Instr.field 33 (.agg (Aq.enc r).toArray) 2).run Tryz.prog w=.ok (.int .i64 r.n) w:=by kernel_rfl
theorem Tw (k c:Int) (p:Option Addr) (n d:Nat) (w:World):(Instr.build 43 [(0,Value.int .i64 k),(1,Value.int .i64 c),(3,Value.slice p n d)].toArray).run Tryz.prog w=.ok (.agg #[.int .i64 k,.int .i64 c,.int .i64 0,.slice p n d,.slice none 0 0]) w:=by kernel_rfl
theorem Lj (k c:Int) (w:World):(Instr.build 43 [(0,Value.int .i64 k),(1,Value.int .i64 c)].toArray).run Tryz.prog w=.ok (.agg #[.int .i64 k,.int .i64 c,.int .i64 0,.slice none 0 0,.slice none 0 0]) w:=by kernel_rfl
variable {cs : List Cn} {x : Cn}
set_option maxRecDepth 20000 in
theorem OD (hH:Bk g w 9 hb 39 [.pointer (some (adr (bx sb) 0))]) (hV:Srv g w sb m kp dk slot log clk lasts cs n) (hC:∀i x,cs[i]?=some x→(∃q,Ct g w x n (ou i) q)∧∃po co out buf,AV g w x.b x.ss x.cl x.rd x.qc po co out buf) (hcs:cs.length≤8) (hi:cs[i]?=some x) (hn:n≤200) :
  Ctr Tryz.prog 34 [.pointer (some (adr (bx hb) 0)),.int .i64 (i:Int)] w (fun v w'=>∃r:Nk,v=.agg (Gm.enc r).toArray∧r.ol=(ou i).length∧Go.V.Own w' w.heap.size 5 Ai r.op r.oc (ou i)∧Ext w w'):=by
 have b1:=hH.blk
 have hlt:i<cs.length:=(List.getElem?_eq_some_iff.1 hi).1
 refine Ac Tryz.func34 Tryz.ntmps34 rfl rfl rfl ?_
 repeat' (refine R1 ?_)
 refine Q1 ?_;refine Q7 T.zero89 ?_;intro a4 w1 ha4 hA4 hx1 hs1
 have b2:=b1.ext hx1
 have hV1:=hV.ext hx1 0
 repeat' (first|refine R1 ?_|(refine Q1 ?_;first|(refine Q4 (f:=16) (hc:=Me hV1 (by omega) hn (fun i x hx=>by obtain ⟨⟨q,h1⟩,po,co,out,buf,h2⟩:=hC i x hx;exact ⟨⟨q,h1.ext hx1 0⟩,po,co,out,buf,h2.ext hx1 0⟩)) ?_;rintro _ w2 ⟨p2,c2,ws,rfl,hl2,hO2,hW2,hx2⟩;refine Kc ?_;replace hA4:=hA4.ext (Kx hx2))|(refine Q2 (hu:=T.f39_0) ?_)|(refine Q3 (hu:=T.p37) ?_)|(refine Q6 (hu:=T.s56) ?_)|refine Q13 T.s56 ?_)|refine R2 ?_|(apply Za;exact rfl;all_goals (intro h;try (exfalso;omega)))|fail)
 obtain ⟨r,hr1,hr2,hr3⟩:=hW2 i x hi hlt
 have hs2:=hO2.sl
 have hlt2:i<ws.length:=by omega
 repeat' (refine Q1 ?_;(refine Q14 T.a89 (q:=i) (e:=Gm) (hs:=hs2) (hq:=hr1) ?_))
 refine Q1 ?_;refine Q5 T.z89 hA4 ?_;intro w3 hA3 hg3 hs3
 replace hA3:Blk w3.heap a4 89 (Gm.enc r):=hA3
 repeat' (first|refine R1 ?_|refine R2 ?_|fail)
 refine Ze Tryz.results34 ⟨_,_,_,rfl,rfl,Ae T.a89 (by assumption) rfl,rfl⟩ ?_
 exact ⟨r,rfl,hr2,(hr3.kept hg3 (fun a ha e=>hr3.apartB hA4 (by decide) (by rw [ha];exact e.symm))).base (by have:=hx1.size;omega),(hx1.trans hx2).own hg3 (fun k hk=>by injection hk;omega)⟩
theorem Fw (bs:List UInt8):(Af bs).data.toList=bs:=by simp [Af]
theorem KD (bs:List UInt8):(Af bs).size=bs.length:=by
 show (Af bs).data.size=_
 rw [← Array.length_toList,Fw]
set_option maxRecDepth 20000 in
theorem Ve (hB:Bs W0 ix g w) (hT:Pow W0) (hE:CL W0) (hH:Bk g w 9 hb 39 [.pointer (some (adr (bx sb) 0))]) (hV:Srv g w sb m kp dk slot log clk lasts cs n) (hC:Cs g w W0.heap.size n cs ou) (hi:cs[i]?=some x) (hn:n≤190) (hl:FE l) (hU:∀t∈U,0<t∧(t<8∨t=x.b+4))
  (hst:∀R g1 w1 g2 w2,Ψ R g1 w1→Stq ix [0,8,x.b,x.b+1,x.b+2,x.b+3] g1 g2 w1 w2→Ψ R g2 w2) (hLf:∀R g1 w1,Ψ R g1 w1→Lf R)
  (hDo:∀g1 w1 q2 d2,Stq ix [8,x.b,x.b+1,x.b+2,x.b+3] g g1 w w1→SlT g1 w1 (x.b+3) Ar q2 d2 l→Ctr Tryz.prog 58 [.pointer (some (adr (bx x.cl) 0)),.slice q2 l.length d2] w1 (fun v w'=>∃R,v=.tuple #[.agg (Aq.enc R).toArray,.bool false]∧∃g',Stq ix U g1 g' w1 w'∧Ψ R g' w')) :
  Ctr Tryz.prog 18 [.pointer (some (adr (bx hb) 0)),.int .i64 (i:Int),.string (Af (prB l))] w (fun v w'=>∃R g' ou',v=.string (Af (Ed R))∧Stq ix (8 :: x.b :: (x.b+1) :: (x.b+2) :: (x.b+3) :: U) g g' w w'∧Bk g' w' 9 hb 39 [.pointer (some (adr (bx sb) 0))]∧Srv g' w' sb m kp dk slot log clk lasts cs (n+4)∧Cs g' w' W0.heap.size (n+4) cs ou'∧Ψ R g' w'):=by
 have hlen:(prB l).length≤1000000:=by
  have:=PT (l:=l) (by have:=hl.len;omega) (fun x hx=>by have:=hl.words x hx;omega)
  have:=hl.len
  omega
 obtain ⟨⟨q,hL⟩,hSe,hxb,hrd⟩:=hC.one i x hi
 have hcl:=hC.len
 have h8:8<x.b:=by omega
 have b1:=hH.blk
 have hU':∀t∈U,0<t∧(t<8∨x.b+3<t):=fun t ht=>by have:=hU t ht;omega
 refine Ac Tryz.func18 Tryz.ntmps18 rfl rfl rfl ?_
 repeat' (first|refine R1 ?_|(refine Q1 ?_;(refine Q4 (f:=34) (hc:=OD hH hV (fun i x hx=>⟨(hC.one i x hx).1,none,0,[],_,(hC.one i x hx).2.1⟩) hcl hi (by omega)) ?_;rintro _ w1 ⟨r1,rfl,hr1,hO1,hx1⟩;refine Kc ?_;replace b1:=b1.ext (Kx hx1)))|fail)
 repeat' (first|refine R1 ?_|(refine Q1 ?_;first|(refine Q41 (QB _) ?_)|(refine Q2 (hu:=T.f39_0) ?_)|(refine Q3 (hu:=T.p37) ?_))|refine R2 ?_|fail)
 have hsz:(Af (prB l)).size≤100000000:=by rw [KD];omega
 refine Q1 ?_
 refine Q66 T.str9 T.s40 T.i5 (hl:=hsz) ?_
 intro b2 c2 w2 hbe2 hM2 hx2 hz2
 rw [Fw] at hM2
 rw [Fw]
 have hbge:w1.heap.size≤b2:=Nat.le_of_eq hbe2.symm
 have hS2:SlT (rt (rt g w 0) w1 0) w2 0 Ai (some ⟨b2,0,none⟩) c2 (prB l):=⟨hM2.sl,fun a ha=>by
  injection ha with ha
  subst ha
  obtain ⟨cur,fr,h1,_⟩:=hM2
  exact ⟨(Array.getElem?_eq_some_iff.1 h1).1,CU hbge,NoB.not ⟨cur,_,fr,h1,by unfold ixT;decide⟩⟩⟩
 repeat' (refine Q1 ?_;(apply Zi;exact rfl;exact Tw _ _ _ _ _;exact rfl))
 refine Q1 ?_
 refine Q12 Cr ⟨1,i,0,some ⟨b2,0,none⟩,(prB l).length,c2⟩ T.s67 ?_
 intro p3 w3 hp3 hs3 hb3 hx3 hz3
 have hx03:=(hx1.trans hx2).trans hx3
 have hX3:Stq ix [8,x.b,x.b+1,x.b+2,x.b+3] g (rt (rt (rt g w 0) w1 0) w2 0) w w3:=((Stq.of_ext hx1 0).trans (Stq.of_ext hx2 0)).trans (Stq.of_ext hx3 0)
 have hX3':Stq ix [] g (rt (rt (rt g w 0) w1 0) w2 0) w w3:=((Stq.of_ext hx1 0).trans (Stq.of_ext hx2 0)).trans (Stq.of_ext hx3 0)
 refine Q1 ?_;refine Q4 (hc:=VH (ix:=ix) (hB.stp hX3' (by simp)) hT hE (hV.stp hX3' (by simp)) hi (by omega) (hL.stp hX3' (by simp) (by simp)) (hSe.stp hX3' (by simp) (by simp)) h8 hrd (by omega) (hS2.ext hx3 0) hl hs3) ?_;rintro _ w4 ⟨rfl,g4,q4,q2,d2,hS4,hV4,hL4,hSe4,hW4⟩;refine Kc ?_
 repeat' (first|refine R1 ?_|refine R2 ?_|fail)
 refine Zm ?_
 have hH4:=(hH.stp hX3' (by simp)).stp hS4 (by simp;omega)
 have b4:=hH4.blk
 repeat' (first|refine R1 ?_|(refine Q1 ?_;first|(apply Zi;exact rfl;exact Lj _ _;exact rfl)|(refine Q2 (hu:=T.f39_0) ?_)|(refine Q3 (hu:=T.p37) ?_))|refine R2 ?_|fail)
 refine Q1 ?_
 refine Q12 Cr ⟨2,i,0,none,0,0⟩ T.s67 ?_
 intro p5 w5 hp5 hs5 hb5 hx5 hz5
 have hX5:Stq ix [8,x.b,x.b+1,x.b+2,x.b+3] g (rt g4 w4 0) w w5:=(hX3.trans hS4).trans (Stq.of_ext hx5 0)
 refine Q1 ?_;refine Q4 (hc:=TV (hB.stp hX5 (by simp;omega)) hT (hV4.ext hx5 0) hi (by omega) (hL4.ext hx5 0) (hSe4.ext hx5 0) h8 (by omega) hU' hst hLf (fun g1 w1 hs=>hDo g1 w1 q2 d2 (hX5.trans (hs.mono (by simp))) ((hW4.ext hx5 0).stp hs (by simp))) hs5) ?_;rintro _ w6 ⟨rfl,R,g6,q6,hS6,hV6,hL6,hSe6,hΨ6⟩;refine Kc ?_
 have u9:9 ∉ U:=fun e=>by have:=hU _ e;omega
 have u0:0 ∉ U:=fun e=>by have:=hU _ e;omega
 have hH6:=((hH4.ext hx5 0)).stp hS6 (by simp;exact ⟨by omega,by omega,by omega,u9⟩)
 have b6:=hH6.blk
 repeat' (first|refine R1 ?_|refine R2 ?_|fail)
 all_goals try (exfalso;simp only at *;omega)
 refine Zg ?_
 repeat' (first|refine R1 ?_|(refine Q1 ?_;first|(apply Zi;exact rfl;exact Lj _ _;exact rfl)|(refine Q2 (hu:=T.f39_0) ?_)|(refine Q3 (hu:=T.p37) ?_))|refine R2 ?_|fail)
 refine Q1 ?_
 refine Q12 Cr ⟨2,i,0,none,0,0⟩ T.s67 ?_
 intro p7 w7 hp7 hs7 hb7 hx7 hz7
 refine Q1 ?_;refine Q4 (hc:=TU (ix:=ix) (hV6.ext hx7 0) hi (by omega) (hL6.ext hx7 0) (hSe6.ext hx7 0) h8 (by omega) hs7) ?_;rintro _ w8 ⟨rfl,g8,q8,hS8,hV8,hL8,hSe8⟩;refine Kc ?_
 have hH8:=(hH6.ext hx7 0).stp hS8 (by simp;omega)
 have b8:=hH8.blk
 repeat' (first|refine R1 ?_|refine R2 ?_|fail)
 all_goals try (exfalso;simp only at *;omega)
 have hXT:Stq ix (8 :: x.b :: (x.b+1) :: (x.b+2) :: (x.b+3) :: U) g g8 w w8:=(((hX5.mono (fun t ht=>by simp at ht ⊢;rcases ht with e|e|e|e|e <;> simp [e])).trans (hS6.mono (fun t ht=>by simp at ht ⊢;rcases ht with e|e|e|e|e <;> simp [e]))).trans (Stq.of_ext hx7 0)).trans (hS8.mono (fun t ht=>by simp at ht ⊢;rcases ht with e|e|e|e <;> simp [e]))
 obtain ⟨ou',hou⟩:∃ou':Nat→List UInt8,ou'=fun j=>if j=i then ou i++Ed R else ou j:=⟨_,rfl⟩
 have hoi:ou' i=ou i++Ed R:=by rw [hou];simp
 have hC8:Cs g8 w8 W0.heap.size (n+4) cs ou':=by
  refine ⟨hcl,fun j y hy=>?_⟩
  by_cases e:j=i
  ·subst e
   obtain rfl:x=y:=by rw [hi] at hy;injection hy
   exact ⟨⟨q8,by rw [hoi];exact hL8⟩,hSe8,hxb,hrd⟩
  ·obtain ⟨⟨qy,h1⟩,h2,h3,h4⟩:=hC.one j y hy
   have ho:ou' j=ou j:=by rw [hou];simp [e]
   have nt:∀d,d≤3→y.b+d ∉ (8 :: x.b :: (x.b+1) :: (x.b+2) :: (x.b+3) :: U):=fun d hd e'=>by
    simp only [List.mem_cons] at e'
    rcases e' with e'|e'|e'|e'|e'|e'
    ·omega
    ·omega
    ·omega
    ·omega
    ·omega
    ·have:=hU _ e';omega
   exact ⟨⟨qy,by rw [ho];exact (h1.stp hXT (nt 1 (by omega)) (nt 2 (by omega))).mono (by omega)⟩,h2.stp hXT (nt 0 (by omega)) (nt 3 (by omega)),h3,h4⟩
 repeat' (first|refine R1 ?_|(refine Q1 ?_;first|(refine Q4 (f:=34) (hc:=OD hH8 hV8 (fun i x hx=>⟨(hC8.one i x hx).1,none,0,[],_,(hC8.one i x hx).2.1⟩) hcl hi (by omega)) ?_;rintro _ w9 ⟨r9,rfl,hr9,hO9,hx9⟩;refine Kc ?_;replace b8:=b8.ext (Kx hx9))|(refine Q41 (QB _) ?_)|(refine Q6 (hu:=T.s40) ?_))|refine R2 ?_|(apply Za;exact rfl;all_goals (intro h;try (exfalso;omega)))|fail)
 ·exfalso
  rw [hoi,List.length_append] at hr9
  omega
 rw [hoi] at hO9 hr9
 have s9:=hO9.sl
 obtain ⟨l9,ip9,il9,ic9,op9,ol9,oc9,ov9⟩:=r9
 simp only at hr9 hO9 s9
 subst hr9
 have hle:(ou i).length≤(ou i++Ed R).length:=by rw [List.length_append];omega
 have hd9:=s9.drop (l:=(ou i).length) (Nat.le_trans hle s9.ok.le)
 rw [List.drop_left] at hd9
 have hln:(ou i++Ed R).length - (ou i).length=(Ed R).length:=by rw [List.length_append];omega
 repeat' (first|refine R1 ?_|(refine Q1 ?_;first|(refine Q18 T.s40 s9.ok (q:=(ou i).length) (hj:=congrArg Int.ofNat hr1) (hq:=hle) ?_)|(refine Q30 T.s40 T.i5 T.str9 (hm:=hln) (hs:=hd9) ?_))|refine R2 ?_|fail)
 refine Kr Tryz.results18 ?_
 exact ⟨R,rt g8 w8 0,ou',rfl,hXT.trans (Stq.of_ext hx9 0),hH8.ext hx9 0,hV8.ext hx9 0,hC8.ext hx9 0,hst _ _ _ _ _ (hst _ _ _ _ _ (hst _ _ _ _ _ hΨ6 (Stq.of_ext hx7 0)) (hS8.mono (fun t ht=>by simp at ht ⊢;rcases ht with e|e|e|e <;> simp [e]))) (Stq.of_ext hx9 0)⟩
theorem Sy {R:Bg} (h:Lf R):∀m,(Ed R)[0]?=some m→m≠42:=by
 intro m hm
 have hr:=h.right
 have hk:=h.kind
 have hle:R.kind≤5:=by
  simp only [Bu,Ca,Bool.and_eq_true,decide_eq_true_eq] at hr
  exact hr.1.1.1.1.1.2
 have hge:0≤R.kind:=by
  simp only [Bu,Ca,Bool.and_eq_true,decide_eq_true_eq] at hr
  exact hr.1.1.1.1.1.1
 have e:(trR R).kind=R.kind:=rfl
 rw [MV] at hm
 unfold BC at hm
 rw [e] at hm
 repeat' split at hm
 all_goals first|(exfalso;omega)|(simp at hm;subst hm;decide)
set_option maxRecDepth 20000 in
theorem WF (hB:Bs W0 ix g w) (hT:Pow W0) (hE:CL W0) (hH:Bk g w 9 hb 39 [.pointer (some (adr (bx sb) 0))]) (hV:Srv g w sb m kp dk slot log clk lasts cs n) (hC:Cs g w W0.heap.size n cs ou) (hi:cs[i]?=some x) (hn:n≤190) (hl:FE l) (hU:∀t∈U,0<t∧(t<8∨t=x.b+4)) (hW:Sl w.heap Ar q d l)
  (hst:∀R g1 w1 g2 w2,Ψ R g1 w1→Stq ix [0,8,x.b,x.b+1,x.b+2,x.b+3] g1 g2 w1 w2→Ψ R g2 w2) (hLf:∀R g1 w1,Ψ R g1 w1→Lf R)
  (hDo:∀g1 w1 q2 d2,Stq ix [8,x.b,x.b+1,x.b+2,x.b+3] g g1 w w1→SlT g1 w1 (x.b+3) Ar q2 d2 l→Ctr Tryz.prog 58 [.pointer (some (adr (bx x.cl) 0)),.slice q2 l.length d2] w1 (fun v w'=>∃R,v=.tuple #[.agg (Aq.enc R).toArray,.bool false]∧∃g',Stq ix U g1 g' w1 w'∧Ψ R g' w')) :
  Ctr Tryz.prog 10 [.pointer (some (adr (bx hb) 0)),.int .i64 (i:Int),.slice q l.length d] w (fun v w'=>∃R r g' ou',v=.agg (Aq.enc r).toArray∧r.kind=R.kind∧r.s=R.s∧r.n=R.n∧Stq ix (8 :: x.b :: (x.b+1) :: (x.b+2) :: (x.b+3) :: U) g g' w w'∧Bk g' w' 9 hb 39 [.pointer (some (adr (bx sb) 0))]∧Srv g' w' sb m kp dk slot log clk lasts cs (n+4)∧Cs g' w' W0.heap.size (n+4) cs ou'∧Ψ R g' w'):=by
 refine Ac Tryz.func10 Tryz.ntmps10 rfl rfl rfl ?_
 repeat' (refine R1 ?_)
 refine Q1 ?_;refine Q7 T.zero33 ?_;intro a6 w1 ha6 hA6 hx1 hs1
 have hW1:=hW.ext hx1
 repeat' (first|refine R1 ?_|(refine Q1 ?_;(refine Q4 (f:=19) (hc:=IP hW1) ?_;rintro _ w2 ⟨hx2,rfl⟩;refine Kc ?_;replace hA6:=hA6.ext (Kx hx2)))|fail)
 rw [Uz hl]
 have hx02:=hx1.trans hx2
 have hX2:∀T,Stq ix T g (rt g w 0) w w2:=fun T=>Stq.of_ext hx02 0
 have hK6:Bk (rt g w 0) w2 0 a6 33 _:=Bk.new hA6 (by omega) (by unfold ixT;decide)
 refine Q1 ?_;refine Q4 (hc:=Ve (hB.stp (hX2 []) (by simp)) hT hE (hH.ext hx02 0) (hV.ext hx02 0) (hC.ext hx02 0) hi hn hl hU hst hLf (fun g1 w1 q2 d2 hs hw=>hDo g1 w1 q2 d2 ((hX2 _).trans hs) hw)) ?_;rintro _ w3 ⟨R,g3,ou3,rfl,hS3,hH3,hV3,hC3,hΨ3⟩;refine Kc ?_
 have hK63:=hK6.stp hS3 (by simp;exact ⟨by have:=(hC.one i x hi).2.2.1;omega,fun e=>by have:=hU _ e;omega⟩)
 have hA3:=hK63.blk
 repeat' (refine R1 ?_)
 have hLr:=hLf _ _ _ hΨ3
 have hbl:=Fj hLr
 have hsz:(Af (Ed R)).size≤100000000:=by rw [KD];omega
 refine Q1 ?_
 refine Q66 T.str9 T.s40 T.i5 (hl:=hsz) ?_
 intro b4 c4 w4 hbe4 hM4 hx4 hz4
 rw [Fw] at hM4
 rw [Fw]
 have hA4:=hA3.ext hx4
 have hf:NG 4 (trR R):=⟨⟨hLr.fits,(by have:=hLr.small;show R.s.size≤_;omega),Nat.zero_le _⟩,fun x hx=>by cases hx⟩
 have hrd:=Xc 4 (trR R) hLr.right hf []
 rw [List.append_nil] at hrd
 have hgd:Bt ((Ed R).drop 0)≠.none:=fun e=>by
  have e1:=UC (d:=4) e
  rw [List.drop_zero] at e1
  rw [show Ed R=wT 4 (trR R) from rfl,hrd] at e1
  cases e1
 repeat' (refine Q1 ?_;first|refine Q19 ?_|(refine Q4 (f:=20) (hc:=MU (k:=0) (bs:=Ed R) (Nat.zero_le _) (by omega) hM4.sl hgd (Sy hLr)) ?_;rintro _ w5 ⟨hx5,hR5⟩;refine Kc ?_;replace hA4:=hA4.ext (Kx hx5)))
 rcases hR5 with ⟨t5,j5,r5,e1,rfl,e3⟩|⟨e1,-⟩
 ·rw [List.drop_zero] at e1
  have e4:=hrd.symm.trans e1
  injection e4 with e4
  injection e4 with e5 e6
  subst e5 e6
  have ej:(wT 4 (trR R)).length=(Af (Ed R)).size:=(KD _).symm
  repeat' (refine Q1 ?_;refine Q33 ?_)
  refine Q1 ?_;refine Q7 T.zero33 ?_;intro a8 w6 ha8 hA8 hx6 hs6
  have hA6:=hA4.ext hx6
  skip
  refine Q1 ?_;refine Q5 T.z33 hA8 ?_;intro w7 hA8 hg7 hs7
  replace hA8:Blk w7.heap a8 33 (Aq.enc r5):=hA8
  have hx57:Ext w5 w7:=hx6.own hg7 (fun k hk=>by injection hk;omega)
  have hA7:=hA4.ext hx57
  repeat' (first|refine R1 ?_|(refine Q1 ?_;first|(refine Q11 T.a33 (hb:=hA8) ?_)|refine Q17 T.str9 ?_)|refine R2 ?_|(apply Za;exact rfl;all_goals (intro h;try (exfalso;omega)))|fail)
  refine Q1 ?_;refine Q5 T.z33 hA7 ?_;intro w8 hA9 hg8 hs8
  replace hA9:Blk w8.heap a6 33 (Aq.enc r5):=hA9
  repeat' (first|refine R1 ?_|refine R2 ?_|fail)
  refine Ze Tryz.results10 ⟨_,_,_,rfl,rfl,Ae T.a33 (by assumption) rfl,rfl⟩ ?_
  have hx35:=(hx4.trans hx5).trans hx57
  have hK7:=(hK63.ext hx35 0).stpG (T:=[0]) (ix:=ix) hg8 0 (by simp)
  have hb:=(hC.one i x hi).2.2.1
  have hX8:Stq ix (8 :: x.b :: (x.b+1) :: (x.b+2) :: (x.b+3) :: U) g _ w w8:=(((hX2 _).trans hS3).trans (Stq.of_ext hx35 0)).own hg8 (by omega) 0
  exact ⟨R,r5,_,ou3,rfl,e3.1,e3.2.1,e3.2.2.1,hX8,(hH3.ext hx35 0).stp hK7 (by simp),(hV3.ext hx35 0).stp hK7 (by simp),(hC3.ext hx35 0).stp hK7 (by simp),hst _ _ _ _ _ (hst _ _ _ _ _ hΨ3 (Stq.of_ext hx35 0)) (hK7.mono (by simp))⟩
 ·exfalso
  rw [List.drop_zero] at e1
  rw [show Ed R=wT 4 (trR R) from rfl,hrd] at e1
  cases e1
attribute [local irreducible] PlainT
structure Db (g:Nat→Nat) (w:World) (ix st k m lg d:Nat) (key:ByteArray) (vs:List Ver) (last mark:Nat) (clk:Int) (ts:List TG) (nn used:Nat):Prop where
 mgr:AL g w m st k clk ts
 sto:Cf g w st ix key vs last mark
 kep:∃sg sv ds,BX g w k lg d sg nn used last sv ds
theorem Db.stp {ix:Nat} {T:List Nat} {g g':Nat→Nat} {w w':World} {st k m lg d:Nat} {key:ByteArray} {vs:List Ver} {last mark:Nat} {clk:Int} {ts:List TG} {nn used:Nat} (h:Db g w ix st k m lg d key vs last mark clk ts nn used) (s:Stq ix T g g' w w') (hT:∀t∈T,t=0∨7<t):Db g' w' ix st k m lg d key vs last mark clk ts nn used:=by
 obtain ⟨sg,sv,ds,h3⟩:=h.kep
 have n:∀t,0<t→t≤7→t ∉ T:=fun t h1 h2 e=>by have:=hT t e;omega
 exact ⟨h.mgr.stp s (n 4 (by omega) (by omega)) (n 5 (by omega) (by omega)),h.sto.stp s (n 3 (by omega) (by omega)),sg,sv,ds,h3.stp s (n 1 (by omega) (by omega)) (n 2 (by omega) (by omega)) (n 6 (by omega) (by omega))⟩
theorem Ty (m k c:Nat) (w:World):(Instr.build 82 [(0,Value.pointer (some (adr (bx m) 0))),(1,Value.pointer (some (adr (bx k) 0))),(3,Value.chan (some c))].toArray).run Tryz.prog w=.ok (.agg #[.pointer (some (adr (bx m) 0)),.pointer (some (adr (bx k) 0)),.int .i64 0,.chan (some c)]) w:=by kernel_rfl
theorem Ud:Tryz.prog.info? 75=some (Tryz.prog.types[75]!):=by kernel_rfl
def Gq (g:Nat→Nat) (w:World) (st k lg sl:Nat) (j:Nat):Nat:=if j<w.heap.size then g j else if j=st then 3 else if j=k then 6 else if j=lg then 2 else if j=sl then 6 else 0
theorem Stq.of_gOpen {ix:Nat} {T:List Nat} {g:Nat→Nat} {w w':World} (h:Ext w w') (st k lg sl:Nat):Stq ix T g (Gq g w st k lg sl) w w':=⟨h.os,h.tape,h.output,h.size,fun k hk _ _=>h.block k hk,fun j hj=>by unfold Gq;rw [if_pos hj]⟩
set_option maxRecDepth 20000 in
theorem SH (hV:Bk g w 8 sb 72 [.int .i64 (each:Int),.int .i64 (nn:Int),.pointer (some (adr (bx dk) 0)),.int .i64 0,.slice none 0 0,.slice none 0 0,.pointer none]) (hD:AZ g w dk ds []) (h0:∀x∈ds,x=Cw) (he:1≤each) (hn:1≤nn) (hf:2 * each+nn≤ds.length) (hds:ds.length≤65536) :
  Ctr Tryz.prog 33 [.pointer (some (adr (bx sb) 0))] w (fun _ w'=>∃g' m k lg st ix,w.heap.size≤ix∧Stq ix [8] g g' w w'∧Srv g' w' sb m k dk each nn 0 [0] [] 0∧Db g' w' ix st k m lg dk key [] 0 0 0 [] nn 0):=by
 have b1:=hV.blk
 refine Ac Tryz.func33 Tryz.ntmps33 rfl rfl rfl ?_
 repeat' (first|refine R1 ?_|(refine Q1 ?_;(refine Q2 (hu:=T.f72_5) ?_))|refine R2 ?_|fail)
 refine Q1 ?_;refine Q5 T.z70 b1 ?_;intro w1 hb1 hg1 hs1
 replace hb1:Blk w1.heap sb 72 [.int .i64 (each:Int),.int .i64 (nn:Int),.pointer (some (adr (bx dk) 0)),.int .i64 0,.slice none 0 0,.slice none 0 0,.pointer none]:=hb1
 have hS1:=hV.stpG (T:=[8]) (ix:=0) hg1 0 (by simp)
 have hV1:=hV.turned (u:=0) hb1
 have hD1:=hD.stp hS1 (by decide)
 repeat' (first|refine R1 ?_|(refine Q1 ?_;first|(refine Q2 (hu:=T.f72_3) ?_)|(refine Q3 (hu:=T.p41) ?_))|refine R2 ?_|fail)
 refine Q1 ?_
 refine Q12 He (-1) T.s41 ?_
 intro p2 w2 hp2 hs2 hb2 hx2 hz2
 have hV2:=hV1.ext hx2 0
 have hrow2:Rw (rt (rt g w 0) w1 0) w2 8 3 He none 0 []:=Rw.nil (by unfold ixT;decide)
 repeat' (refine Q1 ?_;first|refine Q21 ?_|(refine Q16 T.s41 hrow2.own hs2 (xs:=([]:List Int)) (e:=He) (hB:=Nat.zero_le _) (hlen:=by (simp)) (hmax:=by (simp)) ?_;intro p3 c3 w3 ha3)|(refine Q2 (hu:=T.f72_3) ?_))
 have hS3:=hrow2.appS (T:=[8]) (ix:=0) ha3 (by simp)
 have hrow3:=hrow2.app ha3
 have hV3:=hV2.turn ha3.grown (fun e=>by cases e) 8
 have b3:=hV3.blk
 refine Q1 ?_;refine Q5 T.z41 b3 ?_;intro w4 hb4 hg4 hs4
 replace hb4:Blk w4.heap sb 72 [.int .i64 (each:Int),.int .i64 (nn:Int),.pointer (some (adr (bx dk) 0)),.int .i64 0,.slice p3 1 c3,.slice none 0 0,.pointer none]:=hb4
 have hS4:=hV3.stpG (T:=[8]) (ix:=0) hg4 0 (by simp)
 have hV4:=hV3.turned (u:=0) hb4
 have hrow4:=hrow3.turn hg4 (fun k hk e=>hrow3.neB hV3 (by decide) (by rw [hk];exact e.symm)) 0
 have hD4:=((hD1.ext hx2 0).stp hS3 (by decide)).stp hS4 (by decide)
 have b4:=hV4.blk
 have hdr:Ext w4 w4.drew:=Ext.drew Ext.rfl'
 have hS04:∀ix,Stq ix [8] g (rt (rt (rt (rt g w 0) w1 0) w2 8) w3 0) w w4:=fun ix=>(((hV.stpG (ix:=ix) (T:=[8]) hg1 0 (by simp)).trans (Stq.of_ext hx2 0)).trans (hrow2.appS (ix:=ix) (T:=[8]) ha3 (by simp))).trans (hV3.stpG (ix:=ix) (T:=[8]) hg4 0 (by simp))
 have hV5:=hV4.ext hdr 0
 have hrow5:=hrow4.ext hdr 0
 have hD5:=hD4.ext hdr 0
 have b5:=hV5.blk
 repeat' (first|refine R1 ?_|(refine Q1 ?_;first|(refine Q4 (f:=51) (hc:=RO (key:=key) hD5 h0 he hn hf hds) ?_;rintro _ w6 ⟨k,lg,sl,st,ix,rfl,hk,hlg,hsl,hix,hst,hbk,hbl,hbs,hSt,hx6⟩;refine Kc ?_;replace b5:=b5.ext (Kx hx6))|(refine Q2 (hu:=by (first|exact T.f72_1|exact T.f72_0)) ?_)|(refine Q3 (hu:=T.p68) ?_)|(refine Q34 T.a26 rfl (hb:=by assumption) ?_))|refine R2 ?_|refine Zf 1 [] [0,1,2,3,4,5,6,7,8,9,10,11,12,13,14,15] mixed (by decide +kernel) ?_|fail)
 have s6:∀(ix:Nat) (T:List Nat),Stq ix T _ (Gq (rt (rt (rt (rt (rt g w 0) w1 0) w2 8) w3 0) w4 0) w4.drew st k lg sl) w4.drew w6:=fun ix T=>Stq.of_gOpen hx6 st k lg sl
 have hV6:=hV5.stp (s6 0 []) (by simp)
 have hrow6:=hrow5.stp (s6 0 []) (by simp)
 have hD6:=hD5.stp (s6 0 []) (by simp)
 have n1:=BB hbk hSt.box (by decide)
 have n2:=BB hbl hSt.box (by decide)
 have n3:=BB hbl hbk (by decide)
 have hK6:BX (Gq (rt (rt (rt (rt (rt g w 0) w1 0) w2 8) w3 0) w4 0) w4.drew st k lg sl) w6 k lg dk (2 * each) nn 0 0 (.pointer (some (adr (bx sl) 0))) ds:=by
  refine ⟨⟨hbk,?_,by unfold ixT;decide⟩,⟨hbl,?_,by unfold ixT;decide⟩,hD6,hds,hf⟩
  ·unfold Gq;rw [if_neg (by omega),if_neg n1,if_pos rfl]
  ·unfold Gq;rw [if_neg (by omega),if_neg n2,if_neg n3,if_pos rfl]
 have hT6:Cf (Gq (rt (rt (rt (rt (rt g w 0) w1 0) w2 8) w3 0) w4 0) w4.drew st k lg sl) w6 st ix key [] 0 0:=by
  refine ⟨⟨fun _=>False,hSt,fun k h=>h.elim⟩,?_⟩
  unfold Gq;rw [if_neg (by omega),if_pos rfl]
 generalize Gq (rt (rt (rt (rt (rt g w 0) w1 0) w2 8) w3 0) w4 0) w4.drew st k lg sl=g6 at *
 repeat' (first|refine R1 ?_|(refine Q1 ?_;first|(refine Q61 (hu:=⟨_,Tryz.underlying79,fun ms h=>by cases h⟩) ?_)|(refine Q4 (f:=52) (hc:=We (g:=g6) rfl) ?_;rintro _ w7 ⟨m,rfl,hm,hM7,hx7⟩;refine Kc ?_;replace b5:=b5.ext (Kx hx7))|(refine Q2 (hu:=T.f72_2) ?_)|(refine Q3 (hu:=T.p3) ?_))|refine R2 ?_|fail)
 have hV7:=hV6.ext hx7 4
 have b7:=hV7.blk
 have hrow7:=hrow6.ext hx7 4
 have hK7:=hK6.ext hx7 4
 have hT7:=hT6.ext hx7 4
 have hd7:Ext w7 w7.drew:=Ext.drew Ext.rfl'
 have hV8:=hV7.ext hd7 0
 have b8:=hV8.blk
 have hrow8:=hrow7.ext hd7 0
 have o8:=hrow8.own
 have s8:=hrow8.sl
 have hK8:=hK7.ext hd7 0
 have hT8:=hT7.stp (ix:=ix) (T:=[]) (g':=rt (rt g6 w6 4) w7 0) (Stq.of_ext hd7 0) (by simp)
 have hM8:=hM7.ext hd7 0
 obtain ⟨F8,hF8,-⟩:=hT8.ex
 have hrr:Ext w7.drew w7.drew:=Ext.rfl'
 have hq0:([-1]:List Int)[0]?=some (-1):=rfl
 repeat' (first|refine R1 ?_|(refine Q1 ?_;first|(refine Q4 (f:=37) (hc:=Sd hM7) ?_;rintro _ _ ⟨rfl,rfl⟩;refine Kc ?_)|(refine Q4 (f:=15) (hc:=GJ hF8) ?_;rintro _ _ ⟨rfl,rfl⟩;refine Kc ?_)|(refine Q10 T.s41 s8.ok (q:=0) (h1:=by decide) ?_)|(refine Q2 (hu:=T.f72_3) ?_)|(refine Q3 (hu:=T.p41) ?_)|(refine Q6 (hu:=T.s41) ?_))|refine R2 ?_|refine Zf 1 [] [0,1,2,3,4,5,6,7,8,9,10,11,12,13] mixed (by decide +kernel) ?_|fail)
 (refine Q1 ?_;refine Q42 (0:Int) T.z3 o8 hq0 (off:=0) (q:=0) (hB:=Nat.zero_le _) ?_;intro w9 ha9 hz9)
 have hS9:=hrow8.appS (T:=[8]) (ix:=ix) ha9 (by simp)
 have hrow9:=hrow8.app ha9
 have hV9:=hV8.turn ha9.grown (hrow8.neB hV8 (by decide)) 8
 have hK9:=hK8.stp hS9 (by decide) (by decide) (by decide)
 have hT9:=hT8.stp hS9 (by decide)
 have hM9:=hM8.stp hS9 (by decide) (by decide)
 have b9:=hV9.blk
 repeat' (refine R1 ?_)
 refine Q1 ?_
 refine Q77 Tryz.underlying80 Ud (m:=256) ?_
 intro w10 hch10 hx10 hz10
 repeat' (refine Q1 ?_;(apply Zi;exact rfl;exact Ty _ _ _;exact rfl))
 refine Q1 ?_;refine Q8 ?_;intro a11 w11 ha11 hA11 hx11 hs11
 replace hA11:Blk w11.heap a11 82 [.pointer (some (adr (bx m) 0)),.pointer (some (adr (bx k) 0)),.int .i64 ((0:Nat):Int),.chan (some w9.heap.size)]:=hA11
 have hCh:Cx _ w10 8 w9.heap.size 256 #[]:=⟨⟨0,0,hch10⟩,CU (g:=rt (rt (rt g6 w6 4) w7 0) w7.drew 8) (w:=w9) (t:=8) (Nat.le_refl _)⟩
 have hCh:=hCh.ext hx11 8
 have hLf:Bk (rt (rt (rt (rt (rt g6 w6 4) w7 0) w7.drew 8) w9 8) w10 8) w11 8 a11 82 _:=Bk.new hA11 (by omega) (by unfold ixT;decide)
 have hx911:=hx10.trans hx11
 have hV11:=(hV9.ext hx10 8).ext hx11 8
 have hrow11:=(hrow9.ext hx10 8).ext hx11 8
 have hK11:=(hK9.ext hx10 8).ext hx11 8
 have hM11:=(hM9.ext hx10 8).ext hx11 8
 have hT11:=(hT9.stp (ix:=ix) (T:=[]) (g':=rt (rt (rt (rt g6 w6 4) w7 0) w7.drew 8) w9 8) (Stq.of_ext hx10 8) (by simp)).stp (ix:=ix) (T:=[]) (g':=rt (rt (rt (rt (rt g6 w6 4) w7 0) w7.drew 8) w9 8) w10 8) (Stq.of_ext hx11 8) (by simp)
 have b11:=hV11.blk
 repeat' (refine Q1 ?_;first|refine Q21 ?_|(refine Q2 (hu:=T.f72_5) ?_))
 refine Q1 ?_;refine Q5 T.z70 b11 ?_;intro w12 hb12 hg12 hs12
 replace hb12:Blk w12.heap sb 72 [.int .i64 (each:Int),.int .i64 (nn:Int),.pointer (some (adr (bx dk) 0)),.int .i64 0,.slice p3 1 c3,.slice none 0 0,.pointer (some (adr (bx a11) 0))]:=hb12
 have hS12:Stq ix [8] _ (rt (rt (rt (rt (rt (rt g6 w6 4) w7 0) w7.drew 8) w9 8) w10 8) w11 0) w11 w12:=hV11.stpG hg12 0 (by simp)
 have hrow12:=hrow11.turn hg12 (fun k hk e=>hrow11.neB hV11 (by decide) (by rw [hk];exact e.symm)) 0
 have hLf12:=hLf.turn hg12 (fun e=>hLf.neT hV11 (by decide) (by injection e with e;exact e.symm)) 0
 have hCh12:=hCh.turn hV11 hg12 0
 have hK12:=hK11.stp hS12 (by decide) (by decide) (by decide)
 have hM12:=hM11.stp hS12 (by decide) (by decide)
 have hT12:=hT11.stp hS12 (by decide)
 have hV12:=hV11.turned (u:=0) hb12
 repeat' apply Zu
 refine Zk Tryz.results33 (vs:=[]) rfl ?_
 have z04:=(hS04 0).size
 have zdr:=hdr.size
 refine ⟨_,m,k,lg,st,ix,by omega,?_,⟨a11,w9.heap.size,p3,c3,none,0,#[],hV12,hrow12,Rw.nil (by unfold ixT;decide),hLf12,hCh12,Nat.zero_le _⟩,hM12,hT12,2 * each,.pointer (some (adr (bx sl) 0)),ds,hK12⟩
 exact (((((((((hS04 ix).trans (Stq.of_ext hdr 0)).trans (s6 ix [8])).trans (Stq.of_ext hx7 4)).trans (Stq.of_ext hd7 0)).trans hS9).trans (Stq.of_ext hx10 8)).trans (Stq.of_ext hx11 8)).trans hS12)
theorem Vu (a b:Int) (d:Nat) (w:World):(Instr.build 72 [(0,Value.agg #[.int .i64 a,.int .i64 b]),(1,Value.pointer (some (adr (bx d) 0)))].toArray).run Tryz.prog w=.ok (.agg #[.int .i64 a,.int .i64 b,.pointer (some (adr (bx d) 0)),.int .i64 0,.slice none 0 0,.slice none 0 0,.pointer none]) w:=by kernel_rfl
theorem Rp (a:Int) (w:World):(Instr.build 89 [(0,Value.int .i64 a)].toArray).run Tryz.prog w=.ok (.agg #[.int .i64 a,.slice none 0 0,.slice none 0 0,.bool false]) w:=by kernel_rfl
theorem Tz (s:Nat) (a:Int) (w:World):(Instr.build 91 [(0,Value.pointer (some (adr (bx s) 0))),(1,Value.agg #[.int .i64 a,.slice none 0 0,.slice none 0 0,.bool false])].toArray).run Tryz.prog w=.ok (.agg #[.pointer (some (adr (bx s) 0)),.int .i64 a,.slice none 0 0,.slice none 0 0,.bool false,.bool false,.bool false]) w:=by kernel_rfl
set_option maxRecDepth 20000 in
theorem Wy (hx:Ext W0 w) (he:1≤each) (hn:1≤nn) (hb:2 * each+nn≤65536) :
  Ctr Tryz.prog 17 [.agg #[.int .i64 (each:Int),.int .i64 (nn:Int)]] w (fun v w'=>∃g' sb dk m k lg st ix,v=.tuple #[.pointer (some (adr (bx sb) 0)),.int .i64 0]∧Bs W0 ix g' w'∧w.heap.size≤ix∧Ext w w'∧Srv g' w' sb m k dk each nn 0 [0] [] 0∧Db g' w' ix st k m lg dk key [] 0 0 0 [] nn 0):=by
 obtain ⟨g,hg⟩:∃g:Nat→Nat,g=fun _=>0:=⟨_,rfl⟩
 refine Ac Tryz.func17 Tryz.ntmps17 rfl rfl rfl ?_
 repeat' (refine R1 ?_)
 refine Q1 ?_;refine Q8 ?_;intro a1 w1 ha1 hA1 hx1 hs1
 replace hA1:Blk w1.heap a1 28 [.int .i64 (each:Int),.int .i64 (nn:Int)]:=hA1
 repeat' (first|refine R1 ?_|(refine Q1 ?_;first|(refine Q4 (f:=32) (hc:=TR (n:=2 * each+nn) (g:=rt g w 0) (by omega) hb) ?_;rintro _ w2 ⟨dk,rfl,hD2,hx2⟩;refine Kc ?_;replace hA1:=hA1.ext (Kx hx2))|(refine Q2 (hu:=by (first|exact T.f28_0|exact T.f26_0|exact T.f26_1)) ?_)|(refine Q3 (hu:=T.p3) ?_)|refine Q11 T.a26 ?_)|refine R2 ?_|fail)
 repeat' (refine Q1 ?_;(apply Zi;exact rfl;exact Vu _ _ _;exact rfl))
 refine Q1 ?_;refine Q8 ?_;intro a3 w3 ha3 hA3 hx3 hs3
 replace hA3:Blk w3.heap a3 72 [.int .i64 (each:Int),.int .i64 (nn:Int),.pointer (some (adr (bx dk) 0)),.int .i64 0,.slice none 0 0,.slice none 0 0,.pointer none]:=hA3
 have hV3:Bk (rt (rt (rt g w 0) w1 1) w2 8) w3 8 a3 72 _:=Bk.new hA3 (by omega) (by unfold ixT;decide)
 have hD3:=hD2.ext hx3 8
 have hx03:=(hx1.trans hx2).trans hx3
 repeat' (refine R1 ?_)
 refine Q1 ?_;refine Q4 (hc:=SH (key:=key) hV3 hD3 (fun x hx=>List.eq_of_mem_replicate hx) he hn (by rw [List.length_replicate];omega) (by rw [List.length_replicate];omega)) ?_;rintro _ w4 ⟨g4,m,k,lg,st,ix,hix,hS4,hV4,hDb4⟩;refine Kc ?_
 have hg0:∀j,j<w.heap.size→rt (rt (rt g w 0) w1 1) w2 8 j=0:=fun j hj=>by
  have z1:=hx1.size
  have z2:=hx2.size
  rw [AY (by omega),AY (by omega),AY hj,hg]
 have z3:=hx03.size
 have hE4:Ext w w4:=hS4.toE hx03 hg0 (by omega) (by simp)
 have hB4:Bs W0 ix g4 w4:=⟨hx.trans hE4,fun j hj=>by
  have:=hx.size
  rw [hS4.tags j (by omega)]
  exact hg0 j (by omega),by have:=hx.size;omega⟩
 obtain ⟨lf,tq,lp,lc,cp,cc,bf,k1,k2,k3,k4,k5,k6⟩:=hV4.ex
 have b4:=k1.blk
 repeat' (first|refine R1 ?_|(refine Q1 ?_;first|(refine Q15 Tryz.underlying70 (t:=70) ?_)|(refine Q2 (hu:=T.f72_5) ?_)|(refine Q3 (hu:=T.p70) ?_))|refine R2 ?_|fail)
 all_goals try (exfalso;simp only at *;omega)
 refine Kr Tryz.results17 ?_
 exact ⟨g4,a3,dk,m,k,lg,st,ix,rfl,hB4,by omega,hE4,hV4,hDb4⟩
set_option maxRecDepth 20000 in
theorem Oy (hV:Srv g w sb m kp dk slot log clk lasts cs n) (hcs:cs.length≤7) (hla:1≤lasts.length∧lasts.length≤1000) (hb:8<b) :
  Ctr Tryz.prog 24 [.pointer (some (adr (bx sb) 0))] w (fun _ w'=>∃g' x,x.b=b∧w.heap.size≤x.rd∧Stq ix [8] g g' w w'∧Srv g' w' sb m kp dk slot log clk lasts (cs++[x]) n∧Ct g' w' x n [] false∧AV g' w' x.b x.ss x.cl x.rd x.qc none 0 [] #[]∧Bk g' w' (x.b+4) x.cl 190 [.pointer (some (adr (bx m) 0)),.pointer none]):=by
 obtain ⟨lf,tq,lp,lc,cp,cc,bf,k1,k2,k3,k4,k5,k6⟩:=hV.ex
 have b1:=k1.blk
 have b4:=k4.blk
 have hcl:(cs.map (·.ln)).length=cs.length:=List.length_map _
 refine Ac Tryz.func24 Tryz.ntmps24 rfl rfl rfl ?_
 repeat' (first|refine R1 ?_|(refine Q1 ?_;first|(refine Q2 (hu:=by (first|exact T.f72_5|exact T.f82_2|exact T.f82_0)) ?_)|(refine Q3 (hu:=by (first|exact T.p70|exact T.p3|exact T.p46)) ?_))|refine R2 ?_|(apply Za;exact rfl;all_goals (intro h;try (exfalso;omega)))|fail)
 all_goals try (exfalso;simp only at *;omega)
 refine Q1 ?_;refine Q4 (hc:=Ww (g:=g) (b:=b) (m:=m) (by omega)) ?_;rintro _ w1 ⟨ss,cl,rd,qc,g1,rfl,hrd,hss,hx1,hg1,hSe1,hC1⟩;refine Kc ?_
 have hS1:∀T,Stq ix T g g1 w w1:=fun T=>⟨hx1.os,hx1.tape,hx1.output,hx1.size,fun k hk _ _=>hx1.block k hk,hg1⟩
 have k1:=k1.stp (hS1 []) (by simp)
 have k2:=k2.stp (hS1 []) (by simp)
 have k3:=k3.stp (hS1 []) (by simp)
 have k4:=k4.stp (hS1 []) (by simp)
 have k5:=k5.stp (hS1 []) (by simp)
 have b1:=k1.blk
 have b4:=k4.blk
 repeat' (first|refine R1 ?_|(refine Q1 ?_;first|(refine Q2 (hu:=by (first|exact T.f72_5|exact T.f82_2)) ?_)|(refine Q3 (hu:=by (first|exact T.p70|exact T.p3)) ?_))|refine R2 ?_|fail)
 refine Q1 ?_;refine Q5 T.z3 b4 ?_;intro w2 hb2 hg2 hs2
 replace hb2:Blk w2.heap lf 82 [.pointer (some (adr (bx m) 0)),.pointer (some (adr (bx kp) 0)),.int .i64 ((cs.length:Int)+1),.chan (some tq)]:=hb2
 have hS2:=k4.stpG (T:=[8]) (ix:=ix) hg2 0 (by simp)
 have k1:=k1.turn hg2 (fun e=>k4.neT k1 (by decide) (by injection e)) 0
 have k2:=k2.turn hg2 (fun k hk e=>k2.neB k4 (by decide) (by rw [hk];exact e.symm)) 0
 have k3:=k3.turn hg2 (fun k hk e=>k3.neB k4 (by decide) (by rw [hk];exact e.symm)) 0
 have k5:=k5.turn k4 hg2 0
 have k4:=k4.turned (u:=0) hb2
 have hSe2:=hSe1.stp hS2 (by simp;omega) (by simp;omega)
 have hC2:=hC1.stp hS2 (by simp;omega)
 have hd:Ext w2 w2.drew:=Ext.drew Ext.rfl'
 have k1:=k1.ext hd 0
 have k2:=k2.ext hd 0
 have k3:=k3.ext hd 0
 have k4:=k4.ext hd 0
 have k5:=k5.ext hd 0
 have hSe2:=hSe2.ext hd 0
 have hC2:=hC2.ext hd 0
 have b1:=k1.blk
 repeat' (refine R1 ?_)
 refine Zl 1 [] (.node [0,1,2,3,4,5,6,7,8] (.alt 9 (.node [] (.alt 10 (.leaf [11,12,13,14,15,16,17,18,19]) .stop)) .stop)) mixed (by decide +kernel) ?_
 repeat' (first|refine R1 ?_|(refine Q1 ?_;first|(apply Zi;exact rfl;exact Rp _;exact rfl)|(apply Zi;exact rfl;exact Tz _ _;exact rfl)|(refine Q2 (hu:=by (first|exact T.f72_4|exact T.f72_3)) ?_)|(refine Q3 (hu:=by (first|exact T.p69|exact T.p41)) ?_)|(refine Q6 (hu:=T.s41) ?_))|(refine Zj ?_)|(refine Zp ?_)|(apply Zv)|refine R2 ?_|(exact Zq)|fail)
 refine Q1 ?_;refine Q8 ?_;intro a5 w5 ha5 hA5 hx5 hs5
 replace hA5:Blk w5.heap a5 91 [.pointer (some (adr (bx ss) 0)),.int .i64 ((lasts.length:Int) - 1),.slice none 0 0,.slice none 0 0,.bool false,.bool false,.bool false]:=hA5
 skip
 refine Q1 ?_
 refine Q12 ePt a5 T.s69 ?_
 intro p6 w6 hp6 hs6 hb6 hx6 hz6
 have hl5:Bk (rt (rt (rt g1 w1 0) w2 0) w2.drew (b+1)) w5 (b+1) a5 91 _:=Bk.new hA5 (by omega) (by unfold ixT;decide)
 have hl6:=hl5.ext hx6 0
 have k1:=(k1.ext hx5 (b+1)).ext hx6 0
 have k2:=(k2.ext hx5 (b+1)).ext hx6 0
 have k3:=(k3.ext hx5 (b+1)).ext hx6 0
 have k4:=(k4.ext hx5 (b+1)).ext hx6 0
 have k5:=(k5.ext hx5 (b+1)).ext hx6 0
 have hSe6:=(hSe2.ext hx5 (b+1)).ext hx6 0
 have hC6:=(hC2.ext hx5 (b+1)).ext hx6 0
 have b1:=k1.blk
 have o3:=k3.own
 repeat' (refine Q1 ?_;first|refine Q21 ?_|(refine Q16 T.s69 o3 hs6 (hB:=Nat.zero_le _) ?_;intro p7 c7 w7 ha7)|(refine Q2 (hu:=T.f72_4) ?_))
 have hS7:=k3.appS (T:=[8]) (ix:=ix) ha7 (by simp)
 have r7:=k3.app ha7
 have k1:=k1.turn ha7.grown (k3.neB k1 (by decide)) 8
 have k2:=k2.turn ha7.grown (fun k hk e=>k2.neT k3 (by decide) k e hk) 8
 have k4:=k4.turn ha7.grown (k3.neB k4 (by decide)) 8
 have k5:=k5.turnR k3 ha7.grown 8
 have hSe7:=hSe6.stp hS7 (by simp;omega) (by simp;omega)
 have hC7:=hC6.stp hS7 (by simp;omega)
 have hl7:=hl6.stp hS7 (by simp;omega)
 have b1:=k1.blk
 skip
 refine Q1 ?_;refine Q5 T.z69 b1 ?_;intro w8 hb8 hg8 hs8
 replace hb8:Blk w8.heap sb 72 [.int .i64 slot,.int .i64 log,.pointer (some (adr (bx dk) 0)),.int .i64 clk,.slice lp lasts.length lc,.slice p7 (cs.map (·.ln)++[a5]).length c7,.pointer (some (adr (bx lf) 0))]:=hb8
 have hS8:=k1.stpG (T:=[8]) (ix:=ix) hg8 0 (by simp)
 have k2:=k2.turn hg8 (fun k hk e=>k2.neB k1 (by decide) (by rw [hk];exact e.symm)) 0
 have r7:=r7.turn hg8 (fun k hk e=>r7.neB k1 (by decide) (by rw [hk];exact e.symm)) 0
 have k4:=k4.turn hg8 (fun e=>k4.neT k1 (by decide) (by injection e with e;exact e.symm)) 0
 have k5:=k5.turn k1 hg8 0
 have hSe8:=hSe7.stp hS8 (by simp;omega) (by simp;omega)
 have hC8:=hC7.stp hS8 (by simp;omega)
 have hl8:=hl7.stp hS8 (by simp;omega)
 have k1:=k1.turned (u:=0) hb8
 repeat' apply Zu
 refine Zk Tryz.results24 (vs:=[]) rfl ?_
 have hX:=((((((hS1 [8]).trans hS2).trans (Stq.of_ext hd 0)).trans (Stq.of_ext hx5 (b+1))).trans (Stq.of_ext hx6 0)).trans hS7).trans hS8
 refine ⟨_,⟨b,ss,cl,rd,qc,a5⟩,rfl,hrd,hX,⟨lf,tq,lp,lc,p7,c7,bf,by rw [List.map_append];exact k1,k2,by rw [List.map_append];exact r7,by rw [List.length_append];exact k4,k5,k6⟩,⟨_,none,0,[],none,0,hl8,Rw.nil (by unfold ixT;decide),Rw.nil (by unfold ixT;decide),Nat.zero_le _,Nat.zero_le _⟩,hSe8,hC8⟩
set_option maxRecDepth 20000 in
theorem Pg (hV:Srv g w sb m kp dk slot log clk lasts cs n) (hcs:cs.length≤7) (hla:1≤lasts.length∧lasts.length≤1000) (hb:8<b) (hD:Sl w.heap Cr dp dc [⟨0,0,0,none,0,0⟩]) :
  Ctr Tryz.prog 12 [.pointer (some (adr (bx sb) 0)),.slice dp 1 dc] w (fun _ w'=>∃g' x,x.b=b∧w.heap.size≤x.rd∧Stq ix [8] g g' w w'∧Srv g' w' sb m kp dk slot log clk lasts (cs++[x]) n∧Ct g' w' x n [] false∧AV g' w' x.b x.ss x.cl x.rd x.qc none 0 [] #[]∧Bk g' w' (x.b+4) x.cl 190 [.pointer (some (adr (bx m) 0)),.pointer none]):=by
 obtain ⟨lf,tq,lp,lc,cp,cc,bf,k1,k2,k3,k4,k5,k6⟩:=hV.ex
 have bb1:=k1.blk
 refine Ac Tryz.func12 Tryz.ntmps12 rfl rfl rfl ?_
 repeat' (first|refine R1 ?_|(refine Q1 ?_;first|(refine Q15 Tryz.underlying37 (t:=37) ?_)|(refine Q15 Tryz.underlying68 (t:=68) ?_)|(refine Q2 (hu:=T.f72_1) ?_)|(refine Q3 (hu:=T.p68) ?_)|(refine Q6 (hu:=T.s67) ?_))|apply ZF|apply ZK|refine R2 ?_|fail)
 all_goals try (exfalso;simp only at *;omega)
 refine Zm ?_
 repeat' (first|(refine Q1 ?_;first|(refine Q10 T.s67 hD.ok (q:=0) (h1:=by (simp)) ?_)|(refine Q14 T.a43 (q:=0) (e:=Cr) (hs:=hD) (hq:=rfl) ?_))|refine R1 ?_|refine R2 ?_|fail)
 all_goals try (exfalso;simp only at *;omega)
 refine Q1 ?_;refine Q7 T.zero43 ?_;intro a7 w1 ha7 hA7 hx1 hs1
 have bb2:=bb1.ext hx1
 skip
 refine Q1 ?_;refine Q5 T.z43 hA7 ?_;intro w2 hA7 hg2 hs2
 have hx2:Ext w w2:=hx1.own hg2 (fun k hk=>by injection hk;omega)
 replace bb2:=bb1.ext hx2
 have hV2:=hV.ext hx2 0
 replace hA7:Blk w2.heap a7 43 [.int .i64 0,.int .i64 0,.int .i64 0,.slice none 0 0,.slice none 0 0]:=hA7
 repeat' (first|refine R1 ?_|(refine Q1 ?_;first|(refine Q15 Tryz.underlying70 (t:=70) ?_)|(refine Q2 (hu:=by (first|exact T.f43_0|exact T.f72_5)) ?_)|(refine Q3 (hu:=by (first|exact T.p3|exact T.p70)) ?_))|refine R2 ?_|fail)
 all_goals try (exfalso;simp only at *;omega)
 refine Q1 ?_;refine Q4 (hc:=Oy (ix:=ix) hV2 hcs hla hb) ?_;rintro _ w4 ⟨g4,x,hxb,hrd,hS4,hV4,hL4,hSe4,hC4⟩;refine Kc ?_
 repeat' (first|refine R1 ?_|refine R2 ?_|fail)
 refine Zg ?_
 repeat' (first|refine R1 ?_|apply Zo|refine R2 ?_|fail)
 all_goals try (exfalso;simp only at *;omega)
 refine Kr Tryz.results12 ?_
 exact ⟨g4,x,hxb,Nat.le_trans hx2.size hrd,(Stq.of_ext hx2 0).trans hS4,hV4,hL4,hSe4,hC4⟩
set_option maxRecDepth 20000 in
theorem JO (hV:Srv g w sb m kp dk slot log clk lasts cs n) (hM:AL g w m st k clk ts) (hS:Cf g w st ix key vs last mark) (hb:∀a∈ts,(mark:Int)≤a.start) (hml0:mark≤last) (hD:Sl w.heap Cr dp dc [⟨6,0,0,none,0,0⟩]) :
  Ctr Tryz.prog 12 [.pointer (some (adr (bx sb) 0)),.slice dp 1 dc] w (fun _ w'=>∃g',∃(mk j:Nat),Stq ix [3] g g' w w'∧AL g' w' m st k clk ts∧(mk:Int)=Kj ts last∧FQ vs (mk:Int) (MM ts clk) j∧Cf g' w' st ix key (vs.drop j) last mk):=by
 obtain ⟨lf,tq,lp,lc,cp,cc,bf,k1,k2,k3,k4,k5,k6⟩:=hV.ex
 have bb1:=k1.blk
 refine Ac Tryz.func12 Tryz.ntmps12 rfl rfl rfl ?_
 repeat' (first|refine R1 ?_|(refine Q1 ?_;first|(refine Q15 Tryz.underlying37 (t:=37) ?_)|(refine Q15 Tryz.underlying68 (t:=68) ?_)|(refine Q2 (hu:=T.f72_1) ?_)|(refine Q3 (hu:=T.p68) ?_)|(refine Q6 (hu:=T.s67) ?_))|apply ZF|apply ZK|refine R2 ?_|fail)
 all_goals try (exfalso;simp only at *;omega)
 refine Zm ?_
 repeat' (first|(refine Q1 ?_;first|(refine Q10 T.s67 hD.ok (q:=0) (h1:=by (simp)) ?_)|(refine Q14 T.a43 (q:=0) (e:=Cr) (hs:=hD) (hq:=rfl) ?_))|refine R1 ?_|refine R2 ?_|fail)
 all_goals try (exfalso;simp only at *;omega)
 refine Q1 ?_;refine Q7 T.zero43 ?_;intro a7 w1 ha7 hA7 hx1 hs1
 have bb2:=bb1.ext hx1
 skip
 refine Q1 ?_;refine Q5 T.z43 hA7 ?_;intro w2 hA7 hg2 hs2
 have hx2:Ext w w2:=hx1.own hg2 (fun k hk=>by injection hk;omega)
 replace bb2:=bb1.ext hx2
 have hV2:=hV.ext hx2 0
 replace hA7:Blk w2.heap a7 43 [.int .i64 6,.int .i64 0,.int .i64 0,.slice none 0 0,.slice none 0 0]:=hA7
 have b4:=k4.blk.ext hx2
 have hM2:=hM.ext hx2 0
 have hS2:=hS.stp (ix:=ix) (T:=[]) (g':=rt g w 0) (Stq.of_ext hx2 0) (by simp)
 repeat' (first|refine R1 ?_|(refine Q1 ?_;first|(refine Q15 Tryz.underlying70 (t:=70) ?_)|(refine Q2 (hu:=by (first|exact T.f43_0|exact T.f72_5|exact T.f82_0)) ?_)|(refine Q3 (hu:=by (first|exact T.p3|exact T.p70|exact T.p46)) ?_))|refine R2 ?_|fail)
 all_goals try (exfalso;simp only at *;omega)
 refine Q1 ?_;refine Q4 (hc:=NQ hM2 hS2 hb hml0) ?_;rintro _ w4 ⟨⟨nc,rfl⟩,g4,mk,j,hS4,hM4,e1,e2,e3⟩;refine Kc ?_
 repeat' (first|refine R1 ?_|refine R2 ?_|fail)
 refine Zg ?_
 repeat' (first|refine R1 ?_|apply Zo|refine R2 ?_|fail)
 all_goals try (exfalso;simp only at *;omega)
 refine Kr Tryz.results12 ?_
 exact ⟨g4,mk,j,(Stq.of_ext hx2 0).trans hS4,hM4,e1,e2,e3⟩
theorem GX (k:Int) (w:World):(Instr.build 43 [(0,Value.int .i64 k)].toArray).run Tryz.prog w=.ok (.agg #[.int .i64 k,.int .i64 0,.int .i64 0,.slice none 0 0,.slice none 0 0]) w:=by kernel_rfl
theorem Rk (s:Nat) (w:World):(Instr.build 39 [(0,Value.pointer (some (adr (bx s) 0)))].toArray).run Tryz.prog w=.ok (.agg #[.pointer (some (adr (bx s) 0))]) w:=by kernel_rfl
def Clis (g:Nat→Nat) (w:World) (m:Nat) (cs:List Cn):Prop:=∀(i:Nat) (x:Cn),cs[i]?=some x→Bk g w (x.b+4) x.cl 190 [.pointer (some (adr (bx m) 0)),.pointer none]
structure Opn (W0:World) (g:Nat→Nat) (w:World) (ix hb sb dk m k lg st each nn:Nat) (cs:List Cn) (key:ByteArray):Prop where
 bs:Bs W0 ix g w
 hs:Bk g w 9 hb 39 [.pointer (some (adr (bx sb) 0))]
 srv:Srv g w sb m k dk each nn 0 [0] cs 0
 con:Cs g w W0.heap.size 0 cs (fun _=>[])
 db:Db g w ix st k m lg dk key [] 0 0 0 [] nn 0
 cli:Clis g w m cs
theorem Ow {α:Type} {l:List α} {x z:α} {i:Nat} (h:(l++[x])[i]?=some z):l[i]?=some z∨i=l.length∧z=x:=by
 by_cases hi:i<l.length
 ·rw [List.getElem?_append_left hi] at h;exact .inl h
 ·rw [List.getElem?_append_right (by omega)] at h
  obtain ⟨j,hj⟩:∃j,i - l.length=j:=⟨_,rfl⟩
  rw [hj] at h
  cases j with
  | zero=>injection h with h;exact .inr ⟨by omega,h.symm⟩
  | succ j=>simp at h
set_option maxRecDepth 20000 in
theorem KE (hj:j≤7) (he:1≤each) (hn:1≤nn) (hb:2 * each+nn≤65536) :
  Ctr Tryz.prog 7 [.agg #[.int .i64 (each:Int),.int .i64 (nn:Int)],.int .i64 (j:Int)] w (fun v w'=>∃g' ix hb sb dk m k lg st cs,v=.pointer (some (adr (bx hb) 0))∧Opn w g' w' ix hb sb dk m k lg st each nn cs key∧cs.length=j):=by
 refine Ac Tryz.func7 Tryz.ntmps7 rfl rfl rfl ?_
 repeat' (refine R1 ?_)
 refine Q1 ?_;refine Q8 ?_;intro a2 w1 ha2 hA2 hx1 hs1
 replace hA2:Blk w1.heap a2 28 [.int .i64 (each:Int),.int .i64 (nn:Int)]:=hA2
 repeat' (first|refine R1 ?_|(refine Q1 ?_;first|(refine Q4 (f:=17) (hc:=Wy (key:=key) hx1 he hn hb) ?_;rintro _ w2 ⟨g2,sb,dk,m,k,lg,st,ix,rfl,hB2,hix,hx2,hV2,hDb2⟩;refine Kc ?_)|(refine Q15 Tryz.underlying37 (t:=37) ?_)|(apply Zi;exact rfl;exact Rk _;exact rfl)|refine Q11 T.a28 ?_)|refine R2 ?_|fail)
 all_goals try (exfalso;simp only at *;omega)
 refine Q1 ?_;refine Q8 ?_;intro a3 w3 ha3 hA3 hx3 hs3
 replace hA3:Blk w3.heap a3 39 [.pointer (some (adr (bx sb) 0))]:=hA3
 have hO3:Opn w (rt g2 w2 9) w3 ix a3 sb dk m k lg st each nn [] key :=
  ⟨hB2.stp (T:=[]) (Stq.of_ext hx3 9) (by simp),Bk.new hA3 (by omega) (by unfold ixT;decide),hV2.ext hx3 9,⟨by simp,fun i x h=>by simp at h⟩,hDb2.stp (T:=[]) (Stq.of_ext hx3 9) (fun t ht=>by cases ht),fun i x h=>by simp at h⟩
 repeat' (first|refine R1 ?_|refine R2 ?_|fail)
 refine Zh (ι:=Nat) (fun y=>[(1,.int .i64 (j:Int)),(7,.pointer (some (adr (bx a3) 0))),(8,.int .i64 (y:Int))])
  (fun y w'=>∃g' cs,Opn w g' w' ix a3 sb dk m k lg st each nn cs key∧cs.length=y∧y≤j) (fun y=>j - y) 0
  ⟨rfl,rfl,rfl,trivial⟩ ⟨_,[],hO3,rfl,Nat.zero_le _⟩ ?_
 rintro y w4 ⟨g4,cs,hO,hcs,hy⟩
 by_cases hlt:y<j
 ·have b4:=hO.hs.blk
  repeat' (first|refine R1 ?_|(refine Q1 ?_;first|(apply Zi;exact rfl;exact GX _;exact rfl)|(refine Q2 (hu:=T.f39_0) ?_)|(refine Q3 (hu:=T.p37) ?_))|refine R2 ?_|(apply Za;exact rfl;all_goals (intro h;try (exfalso;omega)))|fail)
  all_goals try (exfalso;simp only at *;omega)
  refine Q1 ?_
  refine Q12 Cr ⟨0,0,0,none,0,0⟩ T.s67 ?_
  intro p5 w5 hp5 hs5 hb5 hx5 hz5
  refine Q1 ?_;refine Q4 (hc:=Pg (ix:=ix) (b:=100 * (y+1)) (hO.srv.ext hx5 0) (by omega) ⟨by decide,by decide⟩ (by omega) hs5) ?_;rintro _ w6 ⟨g6,x,hxb,hrd,hS6,hV6,hL6,hSe6,hC6⟩;refine Kc ?_
  have hS:Stq ix [8] g4 g6 w4 w6:=(Stq.of_ext hx5 0).trans hS6
  have hO6:Opn w g6 w6 ix a3 sb dk m k lg st each nn (cs++[x]) key:=by
   have h1:=hO.con.stp hS (fun t ht=>by simp at ht;omega)
   refine ⟨hO.bs.stp hS (by simp),hO.hs.stp hS (by simp),hV6,⟨by rw [List.length_append];simp only [List.length_cons,List.length_nil];omega,fun i z hz=>?_⟩,hO.db.stp hS (fun t ht=>by simp at ht;omega),fun i z hz=>?_⟩
   ·rcases Ow hz with hz|⟨e,rfl⟩
    ·exact h1.one i z hz
    ·exact ⟨⟨false,hL6⟩,hSe6,by omega,by have:=hO.bs.ext.size;have:=hx5.size;omega⟩
   ·rcases Ow hz with hz|⟨e,rfl⟩
    ·exact (hO.cli i z hz).stp hS (by have:=(hO.con.one i z hz).2.2.1;simp;omega)
    ·exact hC6
  repeat' (first|refine R1 ?_|refine R2 ?_|fail)
  exact Zc (y+1) ⟨rfl,rfl,rfl,trivial⟩ ⟨g6,cs++[x],hO6,by rw [List.length_append,hcs];rfl,by omega⟩ (by omega)
 ·obtain rfl:y=j:=by omega
  repeat' (first|refine R1 ?_|refine R2 ?_|(apply Za;exact rfl;all_goals (intro h;try (exfalso;omega)))|fail)
  all_goals try (exfalso;simp only at *;omega)
  refine Kr Tryz.results7 ?_
  exact ⟨g4,ix,a3,sb,dk,m,k,lg,st,cs,rfl,hO,hcs⟩
theorem Gu {name:ByteArray} (h:name=Hz∨name=EW∨name=Dh):name∈AQ.map (·.1):=by
 rcases h with rfl|rfl|rfl
 ·exact List.mem_of_getElem? (i:=17) rfl
 ·exact List.mem_of_getElem? (i:=6) rfl
 ·exact List.mem_of_getElem? (i:=19) rfl
def Wrote (ix st m k lg d:Nat) (key:ByteArray) (vs:List Ver) (last mark:Nat) (clk:Int) (ts:List TG) (nn used:Nat) (s:ByteArray) (e:Int) (R:Bg) (g:Nat→Nat) (w:World):Prop :=
 R=Av 0 sOK 0∧∃y:Wt,y.gone=false∧y.exp=e∧y.val.text=s∧Db g w ix st k m lg d key (vs++[y.v (last+1:Nat)]) (last+1) mark clk ts nn (used+DX (22+key.size+s.size))
theorem Wrote.stp {e:Int} {R:Bg} {T:List Nat} {g g':Nat→Nat} {w w':World} (h:Wrote ix st m k lg d key vs last mark clk ts nn used s e R g w) (hs:Stq ix T g g' w w') (hT:∀t∈T,t=0∨7<t):Wrote ix st m k lg d key vs last mark clk ts nn used s e R g' w':=by
 obtain ⟨h1,y,h2,h3,h4,h5⟩:=h
 exact ⟨h1,y,h2,h3,h4,h5.stp hs hT⟩
theorem VB (hD:Db g w ix st k m lg d key vs last mark clk ts nn used) (hC:Bk g w j cl 190 [.pointer (some (adr (bx m) 0)),.pointer none]) (hj:j ∉ [1,2,3,4,7]) (hA:SlT g w jw Ar q dq [Hz,key,s]) (hjw:jw ∉ [1,2,3,4,7]) (hl:ts.length≤8) (hvl:vs.length≤59) (hfit:last+1≤100000) (hcl:lastOf vs vs.length≤(last:Int)) (hk:key.size≤256) (hs:s.size≤4096) (hc:0≤clk) (hroom:used+DX (22+key.size+s.size)≤nn) :
  Ctr Tryz.prog 58 [.pointer (some (adr (bx cl) 0)),.slice q 3 dq] w (fun v w'=>∃R,v=.tuple #[.agg (Aq.enc R).toArray,.bool false]∧∃g',Stq ix [1,2,3,4,7] g g' w w'∧Wrote ix st m k lg d key vs last mark clk ts nn used s 0 R g' w'):=by
 refine Ia (Ψ:=Wrote ix st m k lg d key vs last mark clk ts nn used s 0) (fun R g1 w1 g2 w2 h hs=>h.stp hs (fun t ht=>by simp at ht;omega)) (by decide) hC.blk hA (by decide) (by decide) (fun w1=>OC) (fun w1=>EB (Gu (.inl rfl))) (fun w1 q' d' hx hS=>?_)
 have hD1:=hD.stp (ix:=ix) (T:=[]) (g':=rt g w 0) (Stq.of_ext hx 0) (fun t ht=>by cases ht)
 obtain ⟨sg,sv,ds,hK⟩:=hD1.kep
 refine (JL (R:=Av 0 sOK 0) (Ψ:=fun y=>y.key=key∧y.exp=0∧y.val.text=s∧y.gone=false) (hC.ext hx 0) hj hD1.mgr hl hD1.sto hK hS hjw hvl hfit hcl (by decide) ?_ ?_).mono ?_
 ·rintro y ⟨h1,h2,h3,h4⟩
  refine ⟨h1,?_⟩
  unfold Cu
  rw [h1,h3,h4]
  simp only [Bool.false_eq_true,if_false]
  rw [show 19+key.size+(3+s.size)=22+key.size+s.size by omega]
  exact hroom
 ·intro t mp g1 w1 vw _ hM hp hS hv hW
  refine (Xw (a:=⟨t,(last:Int),clk,false,mp⟩) (i:=ts.length) hM (by simp) rfl hp hS hk hs hv hc hW).mono ?_
  rintro v w' ⟨rfl,g',x,h1,h2,h3,h4,h5⟩
  exact ⟨rfl,g',x,h1,h2,h3,h4,h5,(h2.ok x rfl).gone⟩
 ·rintro v w' ⟨rfl,g',ds',y,⟨h1,h2,h3,h4⟩,hS,hM,hT,hK',-⟩
  refine ⟨_,rfl,g',hS,rfl,y,h4,h2,h3,hM,hT,sg,sv,ds',?_⟩
  have e:Cu y=22+key.size+s.size:=by
   unfold Cu
   rw [h1,h3,h4]
   simp only [Bool.false_eq_true,if_false]
   omega
  rw [← e]
  exact hK'
def Seen (ix st m k lg d:Nat) (key:ByteArray) (vs:List Ver) (last mark:Nat) (clk:Int) (ts:List TG) (nn used:Nat) (F:Aw→Bool→Bg) (s c:Int) (R:Bg) (g:Nat→Nat) (w:World):Prop :=
 (∃r ok,R=F r ok∧Dv vs s c r ok)∧Db g w ix st k m lg d key vs last mark clk ts nn used
theorem Seen.stp {F:Aw→Bool→Bg} {s c:Int} {R:Bg} {T:List Nat} {g g':Nat→Nat} {w w':World} (h:Seen ix st m k lg d key vs last mark clk ts nn used F s c R g w) (hs:Stq ix T g g' w w') (hT:∀t∈T,t=0∨7<t):Seen ix st m k lg d key vs last mark clk ts nn used F s c R g' w' :=
 ⟨h.1,h.2.stp hs hT⟩
theorem Tc (r:Aw):(Dp r).kind≠1:=by
 unfold Dp
 split
 ·exact show ¬(3:Int)=1 by decide
 ·exact show ¬(4:Int)=1 by decide
def Gp (_:Int) (r:Aw) (_:Bool):Bg:=Dp r
theorem VA (hD:Db g w ix st k m lg d key vs last mark clk ts nn used) (hC:Bk g w j cl 190 [.pointer (some (adr (bx m) 0)),.pointer none]) (hj:j ∉ [4]) (hA:SlT g w jw Ar q dq [EW,key]) (hjw:jw ∉ [1,2,3,4,7]) (hl:ts.length≤8) (hk:key.size≤256) (_:0≤clk) (_:clk≤1099511627776) :
  Ctr Tryz.prog 58 [.pointer (some (adr (bx cl) 0)),.slice q 2 dq] w (fun v w'=>∃R,v=.tuple #[.agg (Aq.enc R).toArray,.bool false]∧∃g',Stq ix [4] g g' w w'∧Seen ix st m k lg d key vs last mark clk ts nn used (Gp clk) last clk R g' w'):=by
 refine Ia (Ψ:=Seen ix st m k lg d key vs last mark clk ts nn used (Gp clk) last clk) (fun R g1 w1 g2 w2 h hs=>h.stp hs (fun t ht=>by simp at ht;omega)) (by decide) hC.blk hA (by decide) (by decide) (fun w1=>IE) (fun w1=>EB (Gu (.inr (.inl rfl)))) (fun w1 q' d' hx hS=>?_)
 have hD1:=hD.stp (ix:=ix) (T:=[]) (g':=rt g w 0) (Stq.of_ext hx 0) (fun t ht=>by cases ht)
 obtain ⟨sg,sv,ds,hK⟩:=hD1.kep
 refine (Lu (Φ:=fun R=>∃r ok,R=(Gp clk) r ok∧Dv vs last clk r ok) (hC.ext hx 0) hj hD1.mgr hl hD1.sto hS hjw hk ?_ ?_).mono ?_
 ·rintro R ⟨r,ok,rfl,-⟩
  exact Tc r
 ·intro w2 t mp vw F hR hv hW
  refine (TS hR hv hW).mono ?_
  rintro v w' ⟨r,ok,rfl,h1,h2⟩
  exact ⟨_,rfl,⟨r,ok,rfl,h1⟩,h2⟩
 ·rintro v w' ⟨R,rfl,hR,g',hS,hM⟩
  exact ⟨R,rfl,g',hS,hR,hM,hD1.sto.stp hS (by decide),sg,sv,ds,hK.stp hS (by decide) (by decide) (by decide)⟩
def Le (ix st m k lg d:Nat) (key:ByteArray) (vs:List Ver) (last mark:Nat) (clk:Int) (ts:List TG) (nn used j cl:Nat) (R:Bg) (g:Nat→Nat) (w:World):Prop :=
 R=Av 0 sOK 0∧∃t mp,Db g w ix st k m lg d key vs last mark clk (ts++[⟨t,(last:Int),clk,false,mp⟩]) nn used∧BF g w mp none∧Bk g w j cl 190 [.pointer (some (adr (bx m) 0)),.pointer (some (adr (bx t) 0))]
theorem Le.stp {R:Bg} {T:List Nat} {g g':Nat→Nat} {w w':World} (h:Le ix st m k lg d key vs last mark clk ts nn used j cl R g w) (hs:Stq ix T g g' w w') (hT:∀t∈T,t=0∨7<t) (hj:j ∉ T):Le ix st m k lg d key vs last mark clk ts nn used j cl R g' w':=by
 obtain ⟨h1,t,mp,h2,h3,h4⟩:=h
 exact ⟨h1,t,mp,h2.stp hs hT,h3.stp hs (fun e=>by have:=hT _ e;omega),h4.stp hs hj⟩
theorem Ry (hD:Db g w ix st k m lg d key vs last mark clk ts nn used) (hC:Bk g w j cl 190 [.pointer (some (adr (bx m) 0)),.pointer none]) (hj:j ∉ [0,1,2,3,4,5,6,7]) (hA:SlT g w jw Ar q dq [El]) (hl:ts.length≤8) :
  Ctr Tryz.prog 58 [.pointer (some (adr (bx cl) 0)),.slice q 1 dq] w (fun v w'=>∃R,v=.tuple #[.agg (Aq.enc R).toArray,.bool false]∧∃g',Stq ix [4,j] g g' w w'∧Le ix st m k lg d key vs last mark clk ts nn used j cl R g' w'):=by
 have hj':=hj
 simp only [List.mem_cons,List.not_mem_nil,or_false,not_or] at hj'
 refine WB (Ψ:=Le ix st m k lg d key vs last mark clk ts nn used j cl) (fun R g1 w1 g2 w2 h hs=>h.stp hs (fun t ht=>by simp at ht;omega) (by simp;omega)) (by simp;omega) hC.blk hA (fun w1 q' d' hx hS=>?_)
 have hD1:=hD.stp (ix:=ix) (T:=[]) (g':=rt g w 0) (Stq.of_ext hx 0) (fun t ht=>by cases ht)
 obtain ⟨sg,sv,ds,hK⟩:=hD1.kep
 refine (SV (ix:=ix) (hC.ext hx 0) (by simp;omega) hD1.mgr hl hD1.sto).mono ?_
 rintro v w' ⟨rfl,g',t,mp,hS,hM,hp,hc⟩
 exact ⟨_,rfl,g',hS,rfl,t,mp,⟨hM,hD1.sto.stp hS (by simp;omega),sg,sv,ds,hK.stp hS (by simp;omega) (by simp;omega) (by simp;omega)⟩,hp,hc⟩
theorem Uo:Lf (Av 0 sOK 0):=⟨rfl,by decide,by unfold AC;decide,by decide,by decide⟩
theorem Un:Lf (Av 4 ⟨#[]⟩ 0):=⟨rfl,by decide,by unfold AC;decide,by decide,by decide⟩
theorem Wd {s:ByteArray} (h:s.size≤2000):Lf (Av 3 s 0):=⟨rfl,by simp [Bu,Ca,trR,Av,Rep.kind,Rep.l,Rep.n,Rep.s],show AC 0 by unfold AC;decide,h,show ¬(3:Int)=5 by decide⟩
theorem XC {n:Int} (h:AC n):Lf (Av 2 ⟨#[]⟩ n):=⟨rfl,by simp [Bu,Ca,trR,Av,Rep.kind,Rep.l,Rep.n,Rep.s],h,by show (0:Nat)≤2000;decide,show ¬(2:Int)=5 by decide⟩
theorem HV {vs:List Ver} {s c:Int} {v:Ver} (h:Gd vs s c v):v∈vs:=by
 obtain ⟨n,_,_,h1,_⟩:=h
 exact List.mem_of_getElem? h1
theorem Um {vs:List Ver} {s c c':Int} {r:Aw} {ok:Bool} (h:Dv vs s c r ok) (hv:∀v∈vs,v.val.text.size≤2000):Lf (Gp c' r ok):=by
 unfold Gp Dp
 cases ok with
 | false =>
  obtain ⟨rfl,-⟩:=h.1 rfl
  exact Un
 | true =>
  obtain ⟨v,h1,h2⟩:=h.2 rfl
  have:=(h2 #[]).val.text
  split
  ·exact Wd (by rw [this];exact hv v (HV h1))
  ·exact Un
structure Hse (W0:World) (g:Nat→Nat) (w:World) (ix hb sb dk m k:Nat) (slot log clk:Int) (cs:List Cn) (n:Nat):Prop where
 bs:Bs W0 ix g w
 hs:Bk g w 9 hb 39 [.pointer (some (adr (bx sb) 0))]
 srv:Srv g w sb m k dk slot log clk [0] cs n
 con:∃ou,Cs g w W0.heap.size n cs ou
theorem Hse.stp {W0:World} {T:List Nat} {g g':Nat→Nat} {w w':World} {ix hb sb dk m k n:Nat} {slot log clk:Int} {cs:List Cn} (h:Hse W0 g w ix hb sb dk m k slot log clk cs n) (s:Stq ix T g g' w w') (hT:∀t∈T,0<t∧t<8):Hse W0 g' w' ix hb sb dk m k slot log clk cs n:=by
 have nt:∀t,t=0∨7<t→t ∉ T:=fun t ht e=>by have:=hT t e;omega
 obtain ⟨ou,hc⟩:=h.con
 exact ⟨h.bs.stp s (nt 0 (.inl rfl)),h.hs.stp s (nt 9 (by omega)),h.srv.stp s (nt 8 (by omega)),ou,hc.stp s (fun t ht=>by have:=hT t ht;omega)⟩
theorem Hse.xt {W0:World} {g:Nat→Nat} {w w':World} {ix hb sb dk m k n:Nat} {slot log clk:Int} {cs:List Cn} (h:Hse W0 g w ix hb sb dk m k slot log clk cs n) (hx:Ext w w') (u:Nat):Hse W0 (rt g w u) w' ix hb sb dk m k slot log clk cs n:=h.stp (T:=[]) (Stq.of_ext hx u) (fun t ht=>by cases ht)
abbrev Nq (x:Cn) (U:List Nat):List Nat:=8 :: x.b :: (x.b+1) :: (x.b+2) :: (x.b+3) :: U
theorem JF (h:Hse W0 g w ix hb sb dk m k slot log clk cs n) (hP:Pow W0) (hE:CL W0) (hi:cs[i]?=some x) (hn:n≤190) (hl:FE l) (hW:Sl w.heap Ar q dq l) (hU:∀t∈U,0<t∧(t<8∨t=x.b+4))
  (hst:∀R g1 w1 g2 w2,Ψ R g1 w1→Stq ix [0,8,x.b,x.b+1,x.b+2,x.b+3] g1 g2 w1 w2→Ψ R g2 w2) (hLf:∀R g1 w1,Ψ R g1 w1→Lf R)
  (hDo:∀g1 w1 q2 d2,Stq ix [8,x.b,x.b+1,x.b+2,x.b+3] g g1 w w1→SlT g1 w1 (x.b+3) Ar q2 d2 l→Ctr Tryz.prog 58 [.pointer (some (adr (bx x.cl) 0)),.slice q2 l.length d2] w1 (fun v w'=>∃R,v=.tuple #[.agg (Aq.enc R).toArray,.bool false]∧∃g',Stq ix U g1 g' w1 w'∧Ψ R g' w')) :
  Ctr Tryz.prog 10 [.pointer (some (adr (bx hb) 0)),.int .i64 (i:Int),.slice q l.length dq] w (fun v w'=>∃R r g',v=.agg (Aq.enc r).toArray∧r.kind=R.kind∧r.s=R.s∧r.n=R.n∧Stq ix (Nq x U) g g' w w'∧Hse W0 g' w' ix hb sb dk m k slot log clk cs (n+4)∧Ψ R g' w'):=by
 obtain ⟨ou,hc⟩:=h.con
 refine (WF h.bs hP hE h.hs h.srv hc hi hn hl hU hW hst hLf hDo).mono ?_
 rintro v w' ⟨R,r,g',ou',rfl,h1,h2,h3,hS,hH,hV,hC,hΨ⟩
 have hb:=(hc.one i x hi).2.2.1
 exact ⟨R,r,g',rfl,h1,h2,h3,hS,⟨h.bs.stp hS (by simp;exact ⟨by omega,fun e=>by have:=hU _ e;omega⟩),hH,hV,ou',hC⟩,hΨ⟩
theorem DY {v:Ver} {s c:Int} {r:Aw} {ok:Bool} (hv:v.stamp≤s) (h:Dv [v] s c r ok):(Eh v c∧ok=true∧r.exp=v.exp∧r.raw.kind=v.val.kind∧r.raw.text=v.val.text)∨(¬Eh v c∧ok=false∧r=EX):=by
 have hs:Eh v c→Gd [v] s c v:=fun ha=>⟨1,⟨Nat.le_refl _,fun i y hi hy=>by
  match i with
  | 0=>injection hy with hy;subst hy;exact hv
  | i+1=>omega,fun i y hi hy=>by
  match i with
  | 0=>omega
  | i+1=>simp at hy⟩,by decide,rfl,ha⟩
 have hk:∀y,Gd [v] s c y→y=v∧Eh v c:=fun y hy=>by
  have e:=HV hy
  obtain ⟨_,_,_,_,ha⟩:=hy
  simp only [List.mem_singleton] at e
  subst e
  exact ⟨rfl,ha⟩
 cases ok with
 | false =>
  obtain ⟨h1,h2⟩:=h.1 rfl
  exact .inr ⟨fun ha=>h2 v (hs ha),rfl,h1⟩
 | true =>
  obtain ⟨y,h1,h2⟩:=h.2 rfl
  obtain ⟨rfl,ha⟩:=hk y h1
  have h3:=h2 #[]
  exact .inl ⟨ha,rfl,h3.exp,h3.val.kind,h3.val.text⟩
theorem EH {l:List ByteArray} (h0:l≠[]) (h1:l.length≤128) (h2:∀w∈l,w.size≤4096):FE l:=⟨h0,h1,h2⟩
theorem UK {t b:Nat} (h:t∈[1,2,3,4,7]):0<t∧(t<8∨t=b):=by simp at h;omega
theorem Vm (h:Hse W0 g w ix hb sb dk m k slot log clk cs n) (hP:Pow W0) (hE:CL W0) (hi:cs[i]?=some x) (hn:n≤190) (hD:Db g w ix st k m lg d key vs last mark clk ts nn used) (hC:Bk g w (x.b+4) x.cl 190 [.pointer (some (adr (bx m) 0)),.pointer none]) (hW:Sl w.heap Ar q dq [Hz,key,s]) (hl:ts.length≤8) (hvl:vs.length≤59) (hfit:last+1≤100000) (hcl:lastOf vs vs.length≤(last:Int)) (hk:key.size≤256) (hs:s.size≤4096) (hc:0≤clk) (hroom:used+DX (22+key.size+s.size)≤nn) :
  Ctr Tryz.prog 10 [.pointer (some (adr (bx hb) 0)),.int .i64 (i:Int),.slice q 3 dq] w (fun v w'=>∃R r g',v=.agg (Aq.enc r).toArray∧r.kind=R.kind∧r.s=R.s∧r.n=R.n∧Stq ix (Nq x [1,2,3,4,7]) g g' w w'∧Hse W0 g' w' ix hb sb dk m k slot log clk cs (n+4)∧Wrote ix st m k lg d key vs last mark clk ts nn used s 0 R g' w'):=by
 obtain ⟨ou,hc0⟩:=h.con
 have hb:=(hc0.one i x hi).2.2.1
 exact JF h hP hE hi hn (EH (l:=[Hz,key,s]) (by simp) (by simp) (fun z hz=>by simp only [List.mem_cons,List.not_mem_nil,or_false] at hz;rcases hz with rfl|rfl|rfl <;> first|decide|omega)) hW (fun t ht=>UK ht)
  (fun R g1 w1 g2 w2 hw hs=>hw.stp hs (fun t ht=>by simp at ht;omega)) (fun R g1 w1 hw=>by rw [hw.1];exact Uo)
  (fun g1 w1 q2 d2 hS hA=>VB (hD.stp hS (fun t ht=>by simp at ht;omega)) (hC.stp hS (by simp;omega)) (by simp;omega) hA (by simp;omega) hl hvl hfit hcl hk hs hc hroom)
theorem Qp (h:Hse W0 g w ix hb sb dk m k slot log clk cs n) (hP:Pow W0) (hE:CL W0) (hi:cs[i]?=some x) (hn:n≤190) (hD:Db g w ix st k m lg d key vs last mark clk ts nn used) (hC:Bk g w (x.b+4) x.cl 190 [.pointer (some (adr (bx m) 0)),.pointer none]) (hW:Sl w.heap Ar q dq [EW,key]) (hl:ts.length≤8) (hk:key.size≤256) (hc:0≤clk) (hc':clk≤1099511627776) (hv:∀v∈vs,v.val.text.size≤2000) :
  Ctr Tryz.prog 10 [.pointer (some (adr (bx hb) 0)),.int .i64 (i:Int),.slice q 2 dq] w (fun v w'=>∃R r g',v=.agg (Aq.enc r).toArray∧r.kind=R.kind∧r.s=R.s∧r.n=R.n∧Stq ix (Nq x [4]) g g' w w'∧Hse W0 g' w' ix hb sb dk m k slot log clk cs (n+4)∧Seen ix st m k lg d key vs last mark clk ts nn used (Gp clk) last clk R g' w'):=by
 obtain ⟨ou,hc0⟩:=h.con
 have hb:=(hc0.one i x hi).2.2.1
 exact JF h hP hE hi hn (EH (l:=[EW,key]) (by simp) (by simp) (fun z hz=>by simp only [List.mem_cons,List.not_mem_nil,or_false] at hz;rcases hz with rfl|rfl <;> first|decide|omega)) hW (fun t ht=>by simp at ht;omega)
  (fun R g1 w1 g2 w2 hw hs=>hw.stp hs (fun t ht=>by simp at ht;omega)) (fun R g1 w1 hw=>by obtain ⟨⟨r,ok,rfl,h1⟩,-⟩:=hw;exact Um h1 hv)
  (fun g1 w1 q2 d2 hS hA=>VA (hD.stp hS (fun t ht=>by simp at ht;omega)) (hC.stp hS (by simp;omega)) (by simp;omega) hA (by simp;omega) hl hk hc hc')
theorem Rb (h:Hse W0 g w ix hb sb dk m k slot log clk cs n) (hP:Pow W0) (hE:CL W0) (hi:cs[i]?=some x) (hn:n≤190) (hD:Db g w ix st k m lg d key vs last mark clk ts nn used) (hC:Bk g w (x.b+4) x.cl 190 [.pointer (some (adr (bx m) 0)),.pointer none]) (hW:Sl w.heap Ar q dq [El]) (hl:ts.length≤8) :
  Ctr Tryz.prog 10 [.pointer (some (adr (bx hb) 0)),.int .i64 (i:Int),.slice q 1 dq] w (fun v w'=>∃R r g',v=.agg (Aq.enc r).toArray∧r.kind=R.kind∧r.s=R.s∧r.n=R.n∧Stq ix (Nq x [4,x.b+4]) g g' w w'∧Hse W0 g' w' ix hb sb dk m k slot log clk cs (n+4)∧Le ix st m k lg d key vs last mark clk ts nn used (x.b+4) x.cl R g' w'):=by
 obtain ⟨ou,hc0⟩:=h.con
 have hb:=(hc0.one i x hi).2.2.1
 exact JF h hP hE hi hn (EH (l:=[El]) (by simp) (by simp) (fun z hz=>by simp at hz;subst hz;decide)) hW (fun t ht=>by simp at ht;omega)
  (fun R g1 w1 g2 w2 hw hs=>hw.stp hs (fun t ht=>by simp at ht;omega) (by simp;omega)) (fun R g1 w1 hw=>by rw [hw.1];exact Uo)
  (fun g1 w1 q2 d2 hS hA=>Ry (hD.stp hS (fun t ht=>by simp at ht;omega)) (hC.stp hS (by simp;omega)) (by simp;omega) hA hl)
theorem TA (w:World):(Instr.build 28 [(0,Value.agg #[.int .i64 200,.int .i64 2000])].toArray).run Tryz.prog w=.ok (.agg #[.int .i64 200,.int .i64 2000]) w:=by kernel_rfl
theorem Rm (w:World):(Instr.build 26 [(0,Value.int .i64 200),(1,Value.int .i64 2000)].toArray).run Tryz.prog w=.ok (.agg #[.int .i64 200,.int .i64 2000]) w:=by kernel_rfl
theorem Opn.hse {W0:World} {g:Nat→Nat} {w:World} {ix hb sb dk m k lg st each nn:Nat} {cs:List Cn} {key:ByteArray} (h:Opn W0 g w ix hb sb dk m k lg st each nn cs key):Hse W0 g w ix hb sb dk m k each nn 0 cs 0:=⟨h.bs,h.hs,h.srv,_,h.con⟩
set_option maxRecDepth 20000 in
theorem JW:Ctr Tryz.prog 8 [] w (fun v w'=>v=.agg #[.int .i64 ((200:Nat):Int),.int .i64 ((2000:Nat):Int)]∧Ext w w'):=by
 refine Ac Tryz.func8 Tryz.ntmps8 rfl rfl rfl ?_
 repeat' (refine R1 ?_)
 refine Q1 ?_;refine Q7 T.zero28 ?_;intro a0 w1 ha0 hA0 hx1 hs1
 repeat' (first|(refine Q1 ?_;first|(apply Zi;exact rfl;exact Rm;exact rfl)|(apply Zi;exact rfl;exact TA;exact rfl))|refine R1 ?_|fail)
 refine Q1 ?_;refine Q5 T.z28 hA0 ?_;intro w2 hA0 hg2 hs2
 replace hA0:Blk w2.heap a0 28 [.int .i64 200,.int .i64 2000]:=hA0
 repeat' (first|refine R1 ?_|refine R2 ?_|fail)
 refine Ze Tryz.results8 ⟨_,_,_,rfl,rfl,Ae T.a28 (by assumption) rfl,rfl⟩ ?_
 exact ⟨rfl,hx1.own hg2 (fun k hk=>by injection hk;omega)⟩
theorem LY {a n:Int} (hn:0<n) (hn':n≤1000) (_:AC a):Ctr Tryz.prog 9 [.int .i64 a,.int .i64 n] w (fun v w'=>v=.int .i64 (a % n)∧w=w'):=by
 have h1:-n<a.tmod n:=by
  have:=Int.tmod_lt_of_pos (-a) hn
  rw [Int.neg_tmod] at this
  omega
 have h2:a.tmod n<n:=Int.tmod_lt_of_pos a hn
 have e:(a.tmod n+n).tmod n=a % n:=by
  rw [Int.tmod_eq_emod_of_nonneg (by omega),Int.add_emod_right]
  by_cases h0:0≤a
  ·rw [Int.tmod_eq_emod_of_nonneg h0,Int.emod_emod_of_dvd _ (Int.dvd_refl n)]
  ·have h3:a.tmod n = -((-a) % n):=by
    have:a = -(-a):=by omega
    rw [this,Int.neg_tmod,Int.tmod_eq_emod_of_nonneg (by omega)]
    simp
   rw [h3]
   have h4:(-a)=n * ((-a) / n)+(-a) % n:=(Int.mul_ediv_add_emod (-a) n).symm
   have h5:-((-a) % n)=a+n * ((-a) / n):=by omega
   rw [h5,Int.add_mul_emod_self_left]
 refine Ac Tryz.func9 Tryz.ntmps9 rfl rfl rfl ?_
 repeat' (first|refine R1 ?_|refine R2 ?_|fail)
 refine Kr Tryz.results9 ?_
 exact ⟨by rw [e];rfl,rfl⟩
set_option maxRecDepth 20000 in
theorem PE (hP:Pow w) (hE:CL w):Ctr Tryz.prog 6 [] w (fun v w'=>v=.bool true∧Ext w w'):=by
 refine Ac Tryz.func6 Tryz.ntmps6 rfl rfl rfl ?_
 repeat' (first|refine R1 ?_|(refine Q1 ?_;(refine Q4 (f:=8) (hc:=JW) ?_;rintro _ w1 ⟨rfl,hx1⟩;refine Kc ?_))|fail)
 refine Q1 ?_;refine Q4 (hc:=KE (each:=200) (nn:=2000) (j:=2) (key:=⟨#[97]⟩) (by decide) (by decide) (by decide) (by decide)) ?_;rintro _ w2 ⟨g2,ix,hb,sb,dk,m,k,lg,st,cs,rfl,hO2,hcs⟩;refine Kc ?_
 have hH2:=hO2.hse
 have b2:=hH2.hs.blk
 obtain ⟨x0,hx0⟩:=Aj (xs:=cs) (k:=0) (by omega)
 obtain ⟨x1,hx1'⟩:=Aj (xs:=cs) (k:=1) (by omega)
 have hcl:=hO2.con.len
 repeat' (first|refine R1 ?_|(refine Q1 ?_;first|(refine Q4 (f:=16) (hc:=Me hO2.srv (by omega) (by decide) (fun i x hx=>⟨(hO2.con.one i x hx).1,none,0,[],_,(hO2.con.one i x hx).2.1⟩)) ?_;rintro _ w3 ⟨p3,c3,ws,rfl,hl3,_,_,hx3⟩;refine Kc ?_;replace b2:=b2.ext (Kx hx3))|(refine Q15 Tryz.underlying23 (t:=23) ?_)|(refine Q15 Tryz.underlying46 (t:=46) ?_)|(refine Q4 (f:=14) (hc:=IC (hO2.srv.ext hx3 0)) ?_;rintro _ _ ⟨rfl,rfl⟩;refine Kc ?_)|(refine Q2 (hu:=T.f39_0) ?_)|(refine Q3 (hu:=T.p37) ?_)|(refine Q6 (hu:=T.s56) ?_))|refine R2 ?_|((fail_if_success (refine Q1 ?_));apply Zb;exact rfl;exact rfl;all_goals (intro h;try (exfalso;omega)))|fail)
 have hP1:Pow w1:=FD hP hx1
 have hE1:CL w1:=CL.ext hE hx1
 refine Q1 ?_
 refine Q24 Ar [Hz,⟨#[97]⟩,⟨#[49]⟩] T.s61 ?_
 intro p4 w4 ho4 hx4 hz4
 have hx24:=hx3.trans hx4
 have hC0:=(hO2.cli 0 x0 hx0).ext hx24 0
 refine Q1 ?_;refine Q4 (hc:=Vm (hH2.xt hx24 0) hP1 hE1 hx0 (by decide) (hO2.db.stp (T:=[]) (Stq.of_ext hx24 0) (fun t ht=>by cases ht)) hC0 ho4.sl (by decide) (by decide) (by decide) (by decide) (by decide) (by decide) (by decide) (by decide)) ?_;rintro _ w5 ⟨R5,r5,g5,rfl,e51,e52,e53,hS5,hH5,hW5⟩;refine Kc ?_
 obtain ⟨rfl,y,y1,y2,y3,hD5⟩:=hW5
 skip
 refine Q1 ?_;refine Q7 T.zero33 ?_;intro a6 w6 ha6 hA6 hx6 hs6
 skip
 refine Q1 ?_;refine Q5 T.z33 hA6 ?_;intro w7 hA7 hg7 hs7
 replace hA7:Blk w7.heap a6 33 (Aq.enc r5):=hA7
 repeat' (refine R1 ?_)
 have hb0:=(hO2.con.one 0 x0 hx0).2.2.1
 have hb1:=(hO2.con.one 1 x1 hx1').2.2.1
 have hx57:Ext w5 w7:=hx6.own hg7 (fun k hk=>by injection hk;omega)
 have hK7:Bk (rt g5 w5 0) w7 0 a6 33 _:=Bk.new hA7 (by omega) (by unfold ixT;decide)
 have hC1:=(((hO2.cli 1 x1 hx1').ext hx24 0).stp hS5 (by simp;omega)).ext hx57 0
 refine Q1 ?_
 refine Q24 Ar [EW,⟨#[97]⟩] T.s61 ?_
 intro p8 w8 ho8 hx8 hz8
 have hs1:∀v∈([]:List Ver)++[y.v ((0+1:Nat):Int)],v.val.text.size≤2000:=fun v hv=>by
  simp only [List.nil_append,List.mem_singleton] at hv
  subst hv
  show y.val.text.size≤2000
  rw [y3];decide
 refine Q1 ?_;refine Q4 (hc:=Qp ((hH5.xt hx57 0).xt hx8 0) hP1 hE1 hx1' (by decide) ((hD5.stp (T:=[]) (Stq.of_ext hx57 0) (fun t ht=>by cases ht)).stp (T:=[]) (Stq.of_ext hx8 0) (fun t ht=>by cases ht)) (hC1.ext hx8 0) ho8.sl (by decide) (by decide) (by decide) (by decide) hs1) ?_;rintro _ w9 ⟨R9,r9,g9,rfl,e91,e92,e93,hS9,hH9,hW9⟩;refine Kc ?_
 obtain ⟨⟨r0,ok,rfl,hSn⟩,hD9⟩:=hW9
 have hK9:=(hK7.ext hx8 0).stp hS9 (by simp;omega)
 skip
 refine Q1 ?_;refine Q7 T.zero33 ?_;intro a10 w10 ha10 hA10 hx10 hs10
 skip
 refine Q1 ?_;refine Q5 T.z33 hA10 ?_;intro w11 hA11 hg11 hs11
 replace hA11:Blk w11.heap a10 33 (Aq.enc r9):=hA11
 have hx911:Ext w9 w11:=hx10.own hg11 (fun k hk=>by injection hk;omega)
 have hA7':=(hK9.ext hx911 0).blk
 have q5:r5.s=⟨#[79,75]⟩:=e52
 have q9:r9.s=⟨#[49]⟩:=by
  rw [e92]
  rcases DY (Int.le_refl _) hSn with ⟨_,_,_,h4,h5⟩|⟨h1,_⟩
  ·unfold Gp Dp
   rw [h4,h5]
   exact y3
  ·exact absurd ⟨y1,.inl y2⟩ h1
 have hH11:=hH9.xt hx911 0
 have bH:=hH11.hs.blk
 have hD11:=hD9.stp (T:=[]) (Stq.of_ext hx911 0) (fun t ht=>by cases ht)
 obtain ⟨⟨pa,ca,hMb,-⟩,-⟩:=hD11.mgr
 have bM:=hMb.blk
 obtain ⟨⟨F,hF,-⟩,-⟩:=hD11.sto
 repeat' (first|refine R1 ?_|(refine Q1 ?_;first|(refine Q35 (he:=q5) ?_)|(refine Q35 (he:=q9) ?_)|(refine Q4 (f:=14) (hc:=IC hH11.srv) ?_;rintro _ _ ⟨rfl,rfl⟩;refine Kc ?_)|(refine Q4 (f:=15) (hc:=GJ hF) ?_;rintro _ _ ⟨rfl,rfl⟩;refine Kc ?_)|(refine Q2 (hu:=by (first|exact T.f39_0|exact T.f33_1|exact T.f54_0)) ?_)|(refine Q3 (hu:=by (first|exact T.p37|exact T.p9|exact T.p49)) ?_))|refine R2 ?_|fail)
 refine Kr Tryz.results6 ?_
 exact ⟨congrArg Value.bool (decide_eq_true (by decide)),hx1.trans hH11.bs.ext⟩
def EK:ByteArray:=⟨#[77,65,82,75]⟩
variable {n : Int}
theorem LZ (h:StR w st ix F key vs last mark):Ctr Tryz.prog 134 [.pointer (some (adr (bx st) 0))] w (fun v w'=>v=.int .i64 (mark:Int)∧w=w'):=by
 have hb:=h.box
 refine Ac Tryz.func134 Tryz.ntmps134 rfl rfl rfl ?_
 repeat' (first|refine R1 ?_|(refine Q1 ?_;first|(refine Q2 (hu:=T.f86_2) ?_)|(refine Q3 (hu:=T.p3) ?_))|refine R2 ?_|fail)
 refine Kr Tryz.results134 ?_
 exact ⟨rfl,rfl⟩
theorem OU:Ctr Tryz.prog 127 [.int .i64 n] w (fun v w'=>∃b,v=.func (.func 128) #[] #[.pointer (some (adr (bx b) 0))]∧Blk w'.heap b 3 [.int .i64 n]∧w.heap.size≤b∧Ext w w'):=by
 refine Ac Tryz.func127 Tryz.ntmps127 rfl rfl rfl ?_
 repeat' (refine R1 ?_)
 refine Q1 ?_;refine Q8 ?_;intro a1 w1 ha1 hA1 hx1 hs1
 replace hA1:Blk w1.heap a1 3 [.int .i64 n]:=hA1
 repeat' (first|refine R1 ?_|refine R2 ?_|fail)
 refine Kr Tryz.results127 ?_
 exact ⟨a1,rfl,hA1,by omega,hx1⟩
theorem OV {b:Nat} (hb:Blk w.heap b 3 [.int .i64 n]):Ctr Tryz.prog 128 [.slice q 0 dq,.pointer (some (adr (bx b) 0))] w (fun v w'=>v=.agg (Aq.enc (Av 2 ⟨#[]⟩ n)).toArray∧Ext w w'):=by
 refine Ac Tryz.func128 Tryz.ntmps128 rfl rfl rfl ?_
 repeat' (refine R1 ?_)
 refine Q1 ?_;refine Q7 T.zero33 ?_;intro a3 w1 ha3 hA3 hx1 hs1
 have hb1:=hb.ext hx1
 repeat' (first|(refine Q1 ?_;first|(refine Q3 (hu:=T.p3) ?_)|(refine Q4 (f:=129) (hc:=PN (n:=n)) ?_;rintro _ w2 ⟨rfl,hx2⟩;refine Kc ?_;replace hA3:=hA3.ext (Kx hx2)))|refine R1 ?_|fail)
 refine Q1 ?_;refine Q5 T.z33 hA3 ?_;intro w3 hA4 hg3 hs3
 replace hA4:Blk w3.heap a3 33 (Aq.enc (Av 2 ⟨#[]⟩ n)):=hA4
 repeat' (first|refine R1 ?_|refine R2 ?_|fail)
 refine Ze Tryz.results128 ⟨_,_,_,rfl,rfl,Ae T.a33 (by assumption) rfl,rfl⟩ ?_
 exact ⟨rfl,(hx1.trans hx2).own hg3 (fun k hk=>by injection hk;omega)⟩
set_option maxRecDepth 20000 in
theorem NW {y:Value} (hC:Blk w.heap cl 190 [.pointer (some (adr (bx m) 0)),y]) (hM:AL g w m st k clk ts) (hS:StR w st ix F key vs last mark):Ctr Tryz.prog 88 [.pointer (some (adr (bx cl) 0)),.string EK] w (fun v w'=>∃b,v=.tuple #[.func (.func 128) #[] #[.pointer (some (adr (bx b) 0))],.int .i64 0,.int .i64 0]∧Blk w'.heap b 3 [.int .i64 (mark:Int)]∧w.heap.size≤b∧Ext w w'):=by
 obtain ⟨⟨pa,ca,h1,-⟩,-⟩:=hM
 have bM:=h1.blk
 refine Ac Tryz.func88 Tryz.ntmps88 rfl rfl rfl ?_
 repeat' (first|refine R1 ?_|(refine Q1 ?_;first|(refine Q35 (he:=by decide) ?_)|refine Q32 ?_|(refine Q4 (f:=134) (hc:=LZ hS) ?_;rintro _ _ ⟨rfl,rfl⟩;refine Kc ?_)|(refine Q2 (hu:=by (first|exact T.f190_0|exact T.f54_0)) ?_)|(refine Q3 (hu:=by (first|exact T.p46|exact T.p49)) ?_))|refine R2 ?_|fail)
 refine Q1 ?_;refine Q22 (hc:=OU (n:=(mark:Int))) ?_;rintro _ w1 ⟨b,rfl,hb,hbz,hx1⟩;refine Kc ?_
 repeat' (first|refine R1 ?_|refine R2 ?_|fail)
 refine Kr Tryz.results88 ?_
 exact ⟨b,rfl,hb,hbz,hx1⟩
theorem OW (hC:Blk w.heap cl 190 [.pointer (some (adr (bx m) 0)),y1]) (hM:AL g w m st k clk ts) (hS:StR w st ix F key vs last mark) (hA:SlT g w jw Ar q dq [EK]) :
  Ctr Tryz.prog 58 [.pointer (some (adr (bx cl) 0)),.slice q 1 dq] w (fun v w'=>v=.tuple #[.agg (Aq.enc (Av 2 ⟨#[]⟩ (mark:Int))).toArray,.bool false]∧Ext w w'):=by
 have hn:EK.size≤1000:=by decide
 have hno:∀b∈EK.data.toList,¬(97≤b.toNat∧b.toNat≤122):=by decide
 obtain ⟨xs,hxs⟩:∃xs:List ByteArray,xs=[]:=⟨_,rfl⟩
 rw [← hxs] at hA
 obtain ⟨name,hname⟩:∃name,name=EK:=⟨_,rfl⟩
 rw [← hname] at hn hno hA
 rw [show (1:Nat)=(name :: xs).length by rw [hxs];rfl]
 refine Ac Tryz.func58 Tryz.ntmps58 rfl rfl rfl ?_
 repeat' (refine R1 ?_)
 refine Q1 ?_;refine Q7 T.zero33 ?_;intro a4 w1 ha4 hA4 hx1 hs1
 have hC1:=hC.ext hx1
 have hS1:=hA.sl.ext hx1
 repeat' (first|refine R1 ?_|(refine Q1 ?_;first|(refine Q15 Tryz.underlying125 (t:=125) ?_)|(refine Q15 Tryz.underlying46 (t:=46) ?_)|(refine Q2 (hu:=T.f190_0) ?_)|(refine Q3 (hu:=T.p46) ?_)|(refine Q6 (hu:=T.s61) ?_))|refine R2 ?_|refine Zf 1 [] [0,1,2,4,5,3,6,7] mixed (by decide +kernel) ?_|fail)
 all_goals try (exfalso;simp only [List.length_cons] at *;omega)
 have hA1:=hA.ext hx1 0
 have hK4:Bk (rt g w 0) w1 0 a4 33 _:=Bk.new hA4 (by omega) (by unfold ixT;decide)
 have hgt:(name :: xs)[0]?=some name:=rfl
 repeat' (first|refine R1 ?_|(refine Q1 ?_;first|(refine Q10 T.s61 hS1.ok (q:=0) (h1:=by (simp)) ?_)|(refine Q9 T.p9 (q:=0) (e:=Ar) (hs:=hS1) (hq:=hgt) ?_)|(refine Q4 (f:=87) (hc:=GK hn hno) ?_;rintro _ w2 ⟨rfl,hx2⟩;refine Kc ?_;replace hC1:=hC1.ext (Kx hx2))|(refine Q18 T.s61 hS1.ok (q:=1) (hq:=by (simp)) ?_))|fail)
 subst hname hxs
 replace hx2:=(Ext.drew Ext.rfl').trans hx2
 have hx02:=hx1.trans hx2
 refine Q1 ?_;refine Q4 (hc:=NW hC1 (hM.ext hx02 0) (hS.ext hx02)) ?_;rintro _ w4 ⟨b,rfl,hb4,hbz,hx4⟩;refine Kc ?_
 have hx14:=hx2.trans hx4
 repeat' (first|refine R1 ?_|(refine Q1 ?_;first|(refine Q103 Tryz.underlying200 (t:=200) ?_)|(refine Q6 (hu:=T.s61) ?_))|refine R2 ?_|fail)
 all_goals try (exfalso;simp only [List.length_nil,List.length_cons] at *;omega)
 refine Q1 ?_;refine Q22 (hc:=OV hb4) ?_;rintro _ w5 ⟨rfl,hx5⟩;refine Kc ?_
 have hx15:=hx14.trans hx5
 have hA45:=hA4.ext hx15
 repeat' (refine Q1 ?_;first|refine Q19 ?_|refine Q124 ?_)
 refine Q1 ?_;refine Q5 T.z33 hA45 ?_;intro wz hbz' hgz hsz
 replace hbz':Blk wz.heap a4 33 (Aq.enc (Av 2 ⟨#[]⟩ (mark:Int))):=hbz'
 repeat' (first|refine R1 ?_|refine R2 ?_|fail)
 refine Ze Tryz.results58 ⟨_,_,_,rfl,rfl,Ae T.a33 (by assumption) rfl,_,_,rfl,rfl,rfl⟩ ?_
 exact ⟨rfl,(hx1.trans hx15).own hgz (fun k hk=>by injection hk;omega)⟩
def sRO:ByteArray:=⟨#[82,69,65,68,79,78,76,89]⟩
def sAT:ByteArray:=⟨#[65,84]⟩
def Bo:ByteArray:=⟨#[69,82,82,32,116,104,101,32,115,116,97,109,112,32,105,115,32,116,111,32,99,111,109,101]⟩
def BV:ByteArray:=⟨#[83,78,65,80,83,72,79,84,45,84,79,79,45,79,76,68,32,116,104,101,32,115,116,97,109,112,32,105,115,32,98,101,108,111,119,32,116,104,101,32,109,97,114,107]⟩
theorem Lt {s:ByteArray} {n:Int} {q:Option Addr} {d:Nat} (hS:Sl w.heap Ar q d [s]) (hn:Cq s n) (hT:Pow w):Ctr Tryz.prog 191 [.slice q 1 d] w (fun v w'=>∃p c,v=.tuple #[.slice p 1 c,.int .i64 0]∧Go.V.Own w' w.heap.size 3 He p c [n]∧Ext w w'):=by
 refine Ac Tryz.func191 Tryz.ntmps191 rfl rfl rfl ?_
 repeat' (first|refine R1 ?_|(refine Q1 ?_;(refine Q6 (hu:=T.s61) ?_))|fail)
 refine Q1 ?_
 refine Q28 He T.s41 ?_
 intro p1 w1 ho1 hx1 hz1
 have hS1:=hS.ext hx1
 repeat' (first|refine R1 ?_|(refine Q1 ?_;(refine Q6 (hu:=T.s61) ?_))|refine R2 ?_|fail)
 refine Zm ?_
 repeat' (first|refine R1 ?_|(refine Q1 ?_;first|(refine Q9 T.p9 (q:=0) (e:=Ar) (hs:=hS1) (hq:=(show [s][0]?=some s from rfl)) ?_)|(refine Q4 (f:=125) (hc:=EF hn (TabIs.ext hT hx1)) ?_;rintro _ w2 ⟨rfl,hx2⟩;refine Kc ?_)|refine Q25 T.s61 ?_)|refine R2 ?_|fail)
 refine Q1 ?_
 refine Q12 He n T.s41 ?_
 intro p3 w3 hp3 hs3 _ hx3 hz3
 have hx13:=hx2.trans hx3
 have ho3:=ho1.ext hx13
 have hz13:=(hx1.trans hx13).size
 repeat' (first|refine R1 ?_|(refine Q1 ?_;(refine Q16 T.s41 ho3 hs3 ?_;intro p4 c4 w4 ha4))|refine R2 ?_|fail)
 refine Zg ?_
 repeat' (first|refine R1 ?_|refine R2 ?_|fail)
 all_goals try (exfalso;omega)
 refine Kr Tryz.results191 ?_
 exact ⟨p4,c4,rfl,ha4.own,(hx1.trans hx13).app ha4 (fun k hk=>(ho1.ge k hk).1)⟩
def Nn (m st k:Nat) (clk:Int) (ts:List TG) (last mark:Nat) (n e:Int) (pt:Option Addr) (ts':List TG) (g:Nat→Nat) (w:World):Prop :=
 AL g w m st k clk ts'∧((e=2∧pt=none∧ts'=ts∧(last:Int)<n)∨(e=31∧pt=none∧ts'=ts∧n≤last∧n<mark) ∨
  (e=0∧(mark:Int)≤n∧n≤last∧∃t mp,pt=some (adr (bx t) 0)∧ts'=ts++[⟨t,n,clk,true,mp⟩]∧BF g w mp none))
set_option maxRecDepth 20000 in
theorem JJ (hM:AL g w m st k clk ts) (hl:ts.length≤9) (hS:Cf g w st ix key vs last mark) (hn:0≤n):Ctr Tryz.prog 193 [.pointer (some (adr (bx m) 0)),.int .i64 n] w (fun v w'=>∃e pt ts' g',v=.tuple #[.pointer pt,.int .i64 e]∧Stq ix [4] g g' w w'∧Nn m st k clk ts last mark n e pt ts' g' w'):=by
 have hM0:=hM
 obtain ⟨⟨pa,ca,h1,h2⟩,h3,h6,h7⟩:=hM
 obtain ⟨⟨F,hF,_⟩,_⟩:=hS
 have hb:=h1.blk
 refine Ac Tryz.func193 Tryz.ntmps193 rfl rfl rfl ?_
 repeat' (first|refine R1 ?_|(refine Q1 ?_;first|(refine Q4 (f:=15) (hc:=GJ hF) ?_;rintro _ _ ⟨rfl,rfl⟩;refine Kc ?_)|(refine Q4 (f:=134) (hc:=LZ hF) ?_;rintro _ _ ⟨rfl,rfl⟩;refine Kc ?_)|(refine Q4 (f:=218) (hc:=Sc (ix:=ix) hM0 hl) ?_;rintro _ w1 ⟨t,mp,g1,rfl,hS1,hM1,hp1,ht1,hm1⟩;refine Kc ?_)|(refine Q2 (hu:=T.f54_0) ?_)|(refine Q3 (hu:=T.p49) ?_))|refine R2 ?_|(apply Za;exact rfl;all_goals (intro h;try (exfalso;omega)))|((fail_if_success (refine Q1 ?_));apply Zb;exact rfl;exact rfl;all_goals (intro h;try (exfalso;omega)))|fail)
 ·refine Kr Tryz.results193 ?_
  exact ⟨2,none,ts,g,rfl,Stq.rfl',hM0,.inl ⟨rfl,rfl,rfl,by omega⟩⟩
 ·refine Kr Tryz.results193 ?_
  exact ⟨31,none,ts,g,rfl,Stq.rfl',hM0,.inr (.inl ⟨rfl,rfl,rfl,by omega,by omega⟩)⟩
 ·refine Kr Tryz.results193 ?_
  exact ⟨0,_,_,g1,rfl,hS1,hM1,.inr (.inr ⟨rfl,by omega,by omega,t,mp,rfl,rfl,hp1⟩)⟩
set_option maxRecDepth 20000 in
theorem PP {b2 b6:Nat} (h2:Blk w.heap b2 125 [.pointer (some (adr (bx cl) 0))]) (h6:Blk w.heap b6 3 [.int .i64 n]) (hC:Blk w.heap cl 190 [.pointer (some (adr (bx m) 0)),y1]) (hM:AL g w m st k clk ts) (hl:ts.length≤9) (hS:Cf g w st ix key vs last mark) (hn:0≤n) :
  Ctr Tryz.prog 192 [.pointer (some (adr (bx b2) 0)),.pointer (some (adr (bx b6) 0))] w (fun v w'=>∃e pt ts' g',v=.tuple #[.pointer pt,.int .i64 e]∧Stq ix [4] g g' w w'∧Nn m st k clk ts last mark n e pt ts' g' w'):=by
 refine Ac Tryz.func192 Tryz.ntmps192 rfl rfl rfl ?_
 repeat' (refine R1 ?_)
 refine Zl 2 [] (.node [4] (.alt 0 (.leaf [1,2,3,5,6,7,8,9]) .stop)) mixed (by decide +kernel) ?_
 have hd:Ext w w.drew:=Ext.drew Ext.rfl'
 have h2d:=h2.ext hd
 have h6d:=h6.ext hd
 have hCd:=hC.ext hd
 repeat' (first|(refine Q1 ?_;first|(refine Q3 (hu:=by (first|exact T.p125|exact T.p46|exact T.p3)) ?_)|(refine Q2 (hu:=T.f190_0) ?_))|refine R1 ?_|(refine Zj ?_)|(refine Zp ?_)|(apply Zv)|refine R2 ?_|(exact Zq)|fail)
 all_goals
  refine Q1 ?_;refine Q4 (hc:=JJ (ix:=ix) (hM.ext hd 0) hl (hS.ext hd 0) hn) ?_;rintro _ w1 ⟨e,pt,ts',g1,rfl,hS1,hB1⟩;refine Kc ?_
  repeat' (first|refine R1 ?_|refine R2 ?_|fail)
  refine Kr Tryz.results192 ?_
  exact ⟨e,pt,ts',g1,rfl,(Stq.of_ext hd 0).trans hS1,hB1⟩
end Go.Proofs.YtkcolpfanmdmiaaGreatDoor
