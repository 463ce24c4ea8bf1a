/- Texts of this proof laid together. -/
import Derived.Test.YtkcolpfanmdmiaaGreatDoorVM20
set_option maxHeartbeats 8000000
open Go Go.V Go.Proofs.YtkcolpfanmdmiaaGreatDoor
variable {key name num : ByteArray} {x : Cn} {clk log slot : Int} {cs : List Cn} {ts : List TG} {vs : List Ver} {cl d dk dq f hb i ix j jw k lg m mark n nn sb st used : Nat} {g : Nat → Nat} {q : Option Addr} {W0 w : World}
namespace Go.Proofs.YtkcolpfanmdmiaaGreatDoor
open Go.V Go.RowKit Go.Conc
attribute [local irreducible] PlainT
variable {last : Nat} {y1 : Value} {F : Nat → Prop} {n : Int}
def atR (e:Int):Bg:=if e=0 then Av 0 sOK 0 else if e=2 then Av 1 Bo 0 else Av 1 BV 0
def AtB (m st k:Nat) (clk:Int) (ts:List TG) (last mark:Nat) (n:Int) (j cl:Nat) (R:Bg) (g:Nat→Nat) (w:World):Prop :=
 ∃e pt ts',Nn m st k clk ts last mark n e pt ts' g w∧Bk g w j cl 190 [.pointer (some (adr (bx m) 0)),.pointer pt]∧R=atR e
set_option maxRecDepth 20000 in
theorem JX (hC:Bk g w j cl 190 [.pointer (some (adr (bx m) 0)),.pointer none]) (hj:j ∉ [0,3,4,5,7]) (hM:AL g w m st k clk ts) (hl:ts.length≤8) (hS:Cf g w st ix key vs last mark) (hA:Sl w.heap Ar q dq [sRO,sAT,num]) (hnum:Cq num n) (h0:0≤n) (hP:Pow w) :
  Ctr Tryz.prog 130 [.pointer (some (adr (bx cl) 0)),.slice q 3 dq] w (fun v w'=>∃R g',v=.agg (Aq.enc R).toArray∧Stq ix [4,j] g g' w w'∧AtB m st k clk ts last mark n j cl R g' w'):=by
 have hj4:j ∉ [4]:=by simp at hj ⊢;omega
 have hj4':¬4=j:=by simp at hj;omega
 have hj5:¬5=j:=by simp at hj;omega
 have hj7:¬7=j:=by simp at hj;omega
 have hj0:¬j=0:=by simp at hj;omega
 have hS0:=hS
 obtain ⟨⟨F,hF,_⟩,_⟩:=hS
 obtain ⟨⟨pa,ca,hm1,-⟩,-⟩:=id hM
 refine Ac Tryz.func130 Tryz.ntmps130 rfl rfl rfl ?_
 repeat' (refine R1 ?_)
 refine Q1 ?_;refine Q8 ?_;intro a2 w1 ha2 hA2 hx1 hs1
 replace hA2:Blk w1.heap a2 125 [.pointer (some (adr (bx cl) 0))]:=hA2
 skip
 refine Q1 ?_;refine Q7 T.zero33 ?_;intro a4 w2 ha4 hA4 hx2 hs2
 have hx02:=hx1.trans hx2
 have hC2:=hC.ext hx02 0
 have hc2:=hC2.blk
 have hm2:=hm1.blk.ext hx02
 have hF2:=hF.ext hx02
 have hA22:=hA2.ext hx2
 repeat' (first|refine R1 ?_|(refine Q1 ?_;first|(refine Q3 (hu:=T.p125) (hb:=hA22) ?_)|refine Q63 Tryz.underlying108 ?_|refine Q78 ?_|(refine Q4 (f:=15) (hc:=GJ hF2) ?_;rintro _ _ ⟨rfl,rfl⟩;refine Kc ?_)|(refine Q3 (hu:=by (first|exact T.p108|exact T.p46|exact T.p49)) ?_)|(refine Q2 (hu:=by (first|exact T.f190_1|exact T.f190_0|exact T.f54_0)) ?_)|(refine Q6 (hu:=T.s61) ?_))|refine R2 ?_|fail)
 all_goals try (exfalso;simp only at *;omega)
 refine Q1 ?_;refine Q7 T.zero3 ?_;intro a6 w3 ha6 hA6 hx3 hs3
 skip
 refine Q1 ?_;refine Q5 T.z3 hA6 ?_;intro w4 hA6 hg4 hs4
 replace hA6:Blk w4.heap a6 3 [.int .i64 (last:Int)]:=hA6
 have hx24:Ext w2 w4:=hx3.own hg4 (fun k hk=>by injection hk;omega)
 have hx04:=hx02.trans hx24
 have hS4:=hA.ext hx04
 repeat' (first|refine R1 ?_|(refine Q1 ?_;first|(refine Q10 T.s61 hS4.ok (q:=0) (h1:=by (simp)) ?_)|(refine Q10 T.s61 hS4.ok (q:=1) (h1:=by (simp)) ?_)|(refine Q9 T.p9 (q:=0) (e:=Ar) (hs:=hS4) (hq:=rfl) ?_)|(refine Q9 T.p9 (q:=1) (e:=Ar) (hs:=hS4) (hq:=rfl) ?_)|(refine Q4 (f:=87) (hc:=GK (s:=sRO) (by decide) (by decide)) ?_;rintro _ w5 ⟨rfl,hx5⟩;refine Kc ?_;replace hA6:=hA6.ext (Kx hx5);replace hS4:=hS4.ext (Kx hx5))|(refine Q4 (f:=87) (hc:=GK (s:=sAT) (by decide) (by decide)) ?_;rintro _ w6 ⟨rfl,hx6⟩;refine Kc ?_;replace hA6:=hA6.ext (Kx hx6);replace hS4:=hS4.ext (Kx hx6))|(refine Q10 T.s61 hS4.ok (q:=2) (h1:=by (simp)) ?_)|(refine Q9 T.p9 (q:=2) (e:=Ar) (hs:=hS4) (hq:=rfl) ?_)|(refine Q58 (he:=by decide) ?_)|(refine Q6 (hu:=T.s61) ?_))|refine R2 ?_|fail)
 refine Q1 ?_
 refine Q12 Ar num T.s61 ?_
 intro p7 w7 hp7 hs7 hb7 hx7 hz7
 refine Q1 ?_;refine Q4 (hc:=Lt hs7 hnum (FD hP (hx04.trans ((hx5.trans hx6).trans hx7)))) ?_;rintro _ w8 ⟨p8,c8,rfl,ho8,hx8⟩;refine Kc ?_
 have hs8:=ho8.sl
 have hx48:=((hx5.trans hx6).trans hx7).trans hx8
 have hA68:=hA6.ext (hx7.trans hx8)
 repeat' (first|refine R1 ?_|(refine Q1 ?_;first|(refine Q10 T.s41 hs8.ok (q:=0) (h1:=by (simp)) ?_)|(refine Q9 T.p3 (q:=0) (e:=He) (hs:=hs8) (hq:=rfl) ?_))|refine R2 ?_|fail)
 refine Q1 ?_;refine Q5 T.z3 hA68 ?_;intro w9 hA69 hg9 hs9
 replace hA69:Blk w9.heap a6 3 [.int .i64 n]:=hA69
 have hx28:=hx24.trans hx48
 have hx09:Ext w w9:=(hx04.trans hx48).own hg9 (fun k hk=>by injection hk;omega)
 have hA29:=(hA22.ext hx28).grown hg9 (fun e=>by injection e;omega)
 have hA49:=(hA4.ext hx28).grown hg9 (fun e=>by injection e;omega)
 have hs9:=hs8.grown hg9 (fun a ha _ e=>by have h1:=(ho8.ge a.block (by rw [ha];rfl)).1;have h2:=(hx5.trans hx6).size;have h3:=hx7.size;have h4:=hg4.size;have h6:=hx7.size;injection e;omega)
 have hK2:Bk (rt g w 0) w9 0 a2 125 _:=Bk.new hA29 (by omega) (by unfold ixT;decide)
 have hK4:Bk (rt g w 0) w9 0 a4 33 _:=Bk.new hA49 (by omega) (by unfold ixT;decide)
 have hK6:Bk (rt g w 0) w9 0 a6 3 _:=Bk.new hA69 (by omega) (by unfold ixT;decide)
 have hC9:=hC.ext hx09 0
 repeat' (first|refine R1 ?_|refine R2 ?_|fail)
 refine Q1 ?_;refine Q22 (hc:=by exact PP (ix:=ix) hK2.blk hK6.blk hC9.blk (hM.ext hx09 0) (by omega) (hS0.ext hx09 0) h0) ?_;rintro _ w10 ⟨e,pt,ts',g10,rfl,hS10,hB10⟩;refine Kc ?_
 have hK210:=hK2.stp hS10 (by decide)
 have hK410:=hK4.stp hS10 (by decide)
 have hC10:=hC9.stp hS10 hj4
 have hS010:=(Stq.of_ext (ix:=ix) (T:=[4]) (g:=g) hx09 0).trans hS10
 have z1:=hx1.size
 obtain ⟨hM10,hcase⟩:=hB10
 rcases hcase with ⟨rfl,rfl,hts,h1⟩|⟨rfl,rfl,hts,h1,h2⟩|⟨rfl,h1,h2,t,mp,rfl,hts,hp10⟩
 ·have hb44:=hK410.blk
  repeat' (first|refine R1 ?_|(refine Q1 ?_;(refine Q4 (f:=60) (hc:=JR (s:=Bo)) ?_;rintro _ w11 ⟨rfl,hx11⟩;refine Kc ?_;replace hb44:=hb44.ext (Kx hx11)))|refine R2 ?_|fail)
  all_goals try (exfalso;simp only at *;omega)
  refine Q1 ?_;refine Q5 T.z33 hb44 ?_;intro w12 hb12 hg12 hs12
  replace hb12:Blk w12.heap a4 33 (Aq.enc (Av 1 Bo 0)):=hb12
  repeat' (first|refine R1 ?_|refine R2 ?_|fail)
  refine Ze Tryz.results130 ⟨_,_,_,rfl,rfl,Ae T.a33 (by assumption) rfl,rfl⟩ ?_
  have hK411:=hK410.ext hx11 0
  have hS12:=hK411.stpG (T:=[0]) (ix:=ix) hg12 0 (by decide)
  exact ⟨_,_,rfl,((hS010.mono (by simp)).trans (Stq.of_ext (ix:=ix) (T:=[4,j]) hx11 0)).own hg12 (by omega) 0,_,_,_,⟨(hM10.ext hx11 0).stp hS12 (by decide) (by decide),.inl ⟨rfl,rfl,hts,h1⟩⟩,(hC10.ext hx11 0).stp hS12 (by simp;exact hj0),rfl⟩
 ·have hb44:=hK410.blk
  repeat' (first|refine R1 ?_|(refine Q1 ?_;(refine Q4 (f:=60) (hc:=JR (s:=BV)) ?_;rintro _ w11 ⟨rfl,hx11⟩;refine Kc ?_;replace hb44:=hb44.ext (Kx hx11)))|refine R2 ?_|fail)
  all_goals try (exfalso;simp only at *;omega)
  refine Q1 ?_;refine Q5 T.z33 hb44 ?_;intro w12 hb12 hg12 hs12
  replace hb12:Blk w12.heap a4 33 (Aq.enc (Av 1 BV 0)):=hb12
  repeat' (first|refine R1 ?_|refine R2 ?_|fail)
  refine Ze Tryz.results130 ⟨_,_,_,rfl,rfl,Ae T.a33 (by assumption) rfl,rfl⟩ ?_
  have hK411:=hK410.ext hx11 0
  have hS12:=hK411.stpG (T:=[0]) (ix:=ix) hg12 0 (by decide)
  exact ⟨_,_,rfl,((hS010.mono (by simp)).trans (Stq.of_ext (ix:=ix) (T:=[4,j]) hx11 0)).own hg12 (by omega) 0,_,_,_,⟨(hM10.ext hx11 0).stp hS12 (by decide) (by decide),.inr (.inl ⟨rfl,rfl,hts,h1,h2⟩)⟩,(hC10.ext hx11 0).stp hS12 (by simp;exact hj0),rfl⟩
 ·have hb210:=hK210.blk
  have hbC10:=hC10.blk
  repeat' (first|refine R1 ?_|(refine Q1 ?_;first|(refine Q3 (hu:=T.p125) (hb:=hb210) ?_)|(refine Q2 (hu:=T.f190_1) ?_))|refine R2 ?_|fail)
  all_goals try (exfalso;simp only at *;omega)
  refine Q1 ?_;refine Q5 T.z108 hbC10 ?_;intro w11 hbC11 hg11 hs11
  replace hbC11:Blk w11.heap cl 190 [.pointer (some (adr (bx m) 0)),.pointer (some (adr (bx t) 0))]:=hbC11
  have hS11:=hC10.stpG (T:=[j]) (ix:=ix) hg11 0 (by simp)
  have hC11:=hC10.turned (u:=0) hbC11
  have hK411:=hK410.grown (u:=0) hg11 (fun e=>hK410.neT hC10 (by decide) e.symm)
  have hb411:=hK411.blk
  repeat' (first|(refine Q1 ?_;(refine Q4 (f:=194) (hc:=Gw (s:=sOK)) ?_;rintro _ w12 ⟨rfl,hx12⟩;refine Kc ?_;replace hb411:=hb411.ext (Kx hx12)))|refine R1 ?_|fail)
  all_goals try (exfalso;simp only at *;omega)
  refine Q1 ?_;refine Q5 T.z33 hb411 ?_;intro w13 hb13 hg13 hs13
  replace hb13:Blk w13.heap a4 33 (Aq.enc (Av 0 sOK 0)):=hb13
  repeat' (first|refine R1 ?_|refine R2 ?_|fail)
  refine Ze Tryz.results130 ⟨_,_,_,rfl,rfl,Ae T.a33 (by assumption) rfl,rfl⟩ ?_
  have hK412:=hK411.ext hx12 0
  have hS13:=hK412.stpG (T:=[0]) (ix:=ix) hg13 0 (by decide)
  have hS012:=((hS010.mono (by simp)).trans (hS11.mono (by simp))).trans (Stq.of_ext (ix:=ix) (T:=[4,j]) hx12 0)
  have hM11:=hM10.stp hS11 (by simp;exact hj4') (by simp;exact hj5)
  exact ⟨_,_,rfl,hS012.own hg13 (by omega) 0,0,_,_,⟨(hM11.ext hx12 0).stp hS13 (by decide) (by decide),.inr (.inr ⟨rfl,h1,h2,t,mp,rfl,hts,((hp10.stp hS11 (by simp;exact hj7)).ext hx12 0).stp hS13 (by decide)⟩)⟩,(hC11.ext hx12 0).stp hS13 (by simp;exact hj0),rfl⟩
variable {n : Nat} {a : Int}
def Tol (ix st m k lg d:Nat) (key:ByteArray) (vs:List Ver) (last mark:Nat) (clk:Int) (ts:List TG) (nn used:Nat) (R0 R:Bg) (g:Nat→Nat) (w:World):Prop :=
 R=R0∧Db g w ix st k m lg d key vs last mark clk ts nn used
theorem Tol.stp {R0 R:Bg} {T:List Nat} {g g':Nat→Nat} {w w':World} (h:Tol ix st m k lg d key vs last mark clk ts nn used R0 R g w) (hs:Stq ix T g g' w w') (hT:∀t∈T,t=0∨7<t):Tol ix st m k lg d key vs last mark clk ts nn used R0 R g' w' :=
 ⟨h.1,h.2.stp hs hT⟩
theorem NV (hD:Db g w ix st k m lg d key vs last mark clk ts nn used) (hC:Bk g w j cl 190 [.pointer (some (adr (bx m) 0)),.pointer none]) (hA:SlT g w jw Ar q dq [EK]) :
  Ctr Tryz.prog 58 [.pointer (some (adr (bx cl) 0)),.slice q 1 dq] w (fun v w'=>∃R,v=.tuple #[.agg (Aq.enc R).toArray,.bool false]∧∃g',Stq ix [] g g' w w'∧Tol ix st m k lg d key vs last mark clk ts nn used (Av 2 ⟨#[]⟩ (mark:Int)) R g' w'):=by
 obtain ⟨⟨F,hF,_⟩,_⟩:=id hD.sto
 refine (OW hC.blk hD.mgr hF hA).mono ?_
 rintro v w' ⟨rfl,hx⟩
 exact ⟨_,rfl,rt g w 0,Stq.of_ext hx 0,rfl,hD.stp (T:=[]) (Stq.of_ext hx 0) (fun t ht=>by cases ht)⟩
def AtD (ix st m k lg d:Nat) (key:ByteArray) (vs:List Ver) (last mark:Nat) (clk:Int) (ts:List TG) (nn used:Nat) (a:Int) (j cl:Nat) (R:Bg) (g:Nat→Nat) (w:World):Prop :=
 ∃e pt ts',Db g w ix st k m lg d key vs last mark clk ts' nn used∧Bk g w j cl 190 [.pointer (some (adr (bx m) 0)),.pointer pt]∧R=atR e ∧
  ((e=2∧(last:Int)<a)∨(e=31∧a≤last∧a<mark)∨(e=0∧(mark:Int)≤a∧a≤last∧∃t mp,pt=some (adr (bx t) 0)∧ts'=ts++[⟨t,a,clk,true,mp⟩]∧BF g w mp none))
theorem AtD.stp {R:Bg} {T:List Nat} {g g':Nat→Nat} {w w':World} (h:AtD ix st m k lg d key vs last mark clk ts nn used a j cl R g w) (hs:Stq ix T g g' w w') (hT:∀t∈T,t=0∨7<t) (hj:j ∉ T):AtD ix st m k lg d key vs last mark clk ts nn used a j cl R g' w':=by
 obtain ⟨e,pt,ts',h1,h2,h3,h4⟩:=h
 refine ⟨e,pt,ts',h1.stp hs hT,h2.stp hs hj,h3,?_⟩
 rcases h4 with h4|h4|⟨h4,h5,h6,t,mp,h7,h8,h9⟩
 ·exact .inl h4
 ·exact .inr (.inl h4)
 ·exact .inr (.inr ⟨h4,h5,h6,t,mp,h7,h8,h9.stp hs (fun e=>by have:=hT _ e;omega)⟩)
theorem lf_at {e:Int}:Lf (atR e):=by
 unfold atR
 split
 ·exact Uo
 ·split
  ·exact ⟨rfl,by decide,by unfold AC;decide,by decide,by decide⟩
  ·exact ⟨rfl,by decide,by unfold AC;decide,by decide,by decide⟩
theorem Jp (hB0:Bs W0 ix g w) (hT:Pow W0) (hD:Db g w ix st k m lg d key vs last mark clk ts nn used) (hC:Bk g w j cl 190 [.pointer (some (adr (bx m) 0)),.pointer none]) (hj:j ∉ [0,1,2,3,4,5,6,7]) (hA:SlT g w jw Ar q dq [El,sRO,sAT,num]) (hl:ts.length≤8) (hnum:Cq num a) (ha:0≤a) :
  Ctr Tryz.prog 58 [.pointer (some (adr (bx cl) 0)),.slice q 4 dq] w (fun v w'=>∃R,v=.tuple #[.agg (Aq.enc R).toArray,.bool false]∧∃g',Stq ix [4,j] g g' w w'∧AtD ix st m k lg d key vs last mark clk ts nn used a j cl R g' w'):=by
 have hj':=hj
 simp only [List.mem_cons,List.not_mem_nil,or_false,not_or] at hj'
 refine WB (Ψ:=AtD ix st m k lg d key vs last mark clk ts nn used a j cl) (fun R g1 w1 g2 w2 h hs=>h.stp hs (fun t ht=>by simp at ht;omega) (by simp;omega)) (by simp;omega) hC.blk hA (fun w1 q' d' hx hS=>?_)
 have hD1:=hD.stp (ix:=ix) (T:=[]) (g':=rt g w 0) (Stq.of_ext hx 0) (fun t ht=>by cases ht)
 obtain ⟨sg,sv,ds,hK⟩:=hD1.kep
 refine (JX (ix:=ix) (hC.ext hx 0) (by simp;omega) hD1.mgr hl hD1.sto hS.sl hnum ha (FD hT (hB0.ext.trans hx))).mono ?_
 rintro v w' ⟨R,g',rfl,hS,e,pt,ts',⟨hM,hc⟩,hcl,hR⟩
 refine ⟨R,rfl,g',hS,e,pt,ts',⟨hM,hD1.sto.stp hS (by simp;omega),sg,sv,ds,hK.stp hS (by simp;omega) (by simp;omega) (by simp;omega)⟩,hcl,hR,?_⟩
 rcases hc with ⟨h1,_,_,h2⟩|⟨h1,_,_,h2,h3⟩|⟨h1,h2,h3,t,mp,h4,h5,h6⟩
 ·exact .inl ⟨h1,h2⟩
 ·exact .inr (.inl ⟨h1,h2,h3⟩)
 ·exact .inr (.inr ⟨h1,h2,h3,t,mp,h4,h5,h6⟩)
theorem Np (h:Hse W0 g w ix hb sb dk m k slot log clk cs n) (hP:Pow W0) (hE:CL W0) (hi:cs[i]?=some x) (hn:n≤190) (hD:Db g w ix st k m lg d key vs last mark clk ts nn used) (hC:Bk g w (x.b+4) x.cl 190 [.pointer (some (adr (bx m) 0)),.pointer none]) (hW:Sl w.heap Ar q dq [EK]) (hm:mark≤100000) :
  Ctr Tryz.prog 10 [.pointer (some (adr (bx hb) 0)),.int .i64 (i:Int),.slice q 1 dq] w (fun v w'=>∃R r g',v=.agg (Aq.enc r).toArray∧r.kind=R.kind∧r.s=R.s∧r.n=R.n∧Stq ix (Nq x []) g g' w w'∧Hse W0 g' w' ix hb sb dk m k slot log clk cs (n+4)∧Tol ix st m k lg d key vs last mark clk ts nn used (Av 2 ⟨#[]⟩ (mark:Int)) R g' w'):=by
 obtain ⟨ou,hc0⟩:=h.con
 have hb:=(hc0.one i x hi).2.2.1
 exact JF h hP hE hi hn (EH (l:=[EK]) (by simp) (by simp) (fun z hz=>by simp at hz;subst hz;decide)) hW (fun t ht=>by cases ht)
  (fun R g1 w1 g2 w2 hw hs=>hw.stp hs (fun t ht=>by simp at ht;omega)) (fun R g1 w1 hw=>by rw [hw.1];exact XC (by unfold AC;omega))
  (fun g1 w1 q2 d2 hS hA=>NV (hD.stp hS (fun t ht=>by simp at ht;omega)) (hC.stp hS (by simp;omega)) hA)
theorem BN (h:Hse W0 g w ix hb sb dk m k slot log clk cs n) (hP:Pow W0) (hE:CL W0) (hi:cs[i]?=some x) (hn:n≤190) (hD:Db g w ix st k m lg d key vs last mark clk ts nn used) (hC:Bk g w (x.b+4) x.cl 190 [.pointer (some (adr (bx m) 0)),.pointer none]) (hW:Sl w.heap Ar q dq [El,sRO,sAT,num]) (hl:ts.length≤8) (hnum:Cq num a) (ha:0≤a) (hns:num.size≤4096) :
  Ctr Tryz.prog 10 [.pointer (some (adr (bx hb) 0)),.int .i64 (i:Int),.slice q 4 dq] w (fun v w'=>∃R r g',v=.agg (Aq.enc r).toArray∧r.kind=R.kind∧r.s=R.s∧r.n=R.n∧Stq ix (Nq x [4,x.b+4]) g g' w w'∧Hse W0 g' w' ix hb sb dk m k slot log clk cs (n+4)∧AtD ix st m k lg d key vs last mark clk ts nn used a (x.b+4) x.cl R g' w'):=by
 obtain ⟨ou,hc0⟩:=h.con
 have hb:=(hc0.one i x hi).2.2.1
 exact JF h hP hE hi hn (EH (l:=[El,sRO,sAT,num]) (by simp) (by simp) (fun z hz=>by simp only [List.mem_cons,List.not_mem_nil,or_false] at hz;rcases hz with rfl|rfl|rfl|rfl <;> first|decide|omega)) hW (fun t ht=>by simp at ht;omega)
  (fun R g1 w1 g2 w2 hw hs=>hw.stp hs (fun t ht=>by simp at ht;omega) (by simp;omega)) (fun R g1 w1 hw=>by obtain ⟨e,_,_,_,_,rfl,_⟩:=hw;exact lf_at)
  (fun g1 w1 q2 d2 hS hA=>Jp (h.bs.stp hS (by simp;omega)) hP (hD.stp hS (fun t ht=>by simp at ht;omega)) (hC.stp hS (by simp;omega)) (by simp;omega) hA hl hnum ha)
def PO:ByteArray:=⟨#[83,78,65,80,83,72,79,84,45,84,79,79,45,79,76,68]⟩
set_option maxRecDepth 20000 in
theorem Du {r:Bg} {w:World} (hk:r.kind=1) (hs:r.s=Bo):Ctr Tryz.prog 13 [.agg (Aq.enc r).toArray,.string Bo] w (fun v w'=>v=.bool true∧Ext w w'):=by
 obtain ⟨kd,s,n,p,l,c⟩:=r
 simp only at hk hs
 subst hk hs
 refine Ac Tryz.func13 Tryz.ntmps13 rfl rfl rfl ?_
 repeat' (refine R1 ?_)
 refine Q1 ?_;refine Q8 ?_;intro a2 w1 ha2 hA2 hx1 hs1
 replace hA2:Blk w1.heap a2 33 (Aq.enc ⟨1,Bo,n,p,l,c⟩):=hA2
 repeat' (first|refine R1 ?_|(refine Q1 ?_;first|(refine Q92 T.str9 (h0:=Int.natCast_nonneg _) (h1:=(show ((Bo).size:Int)≤((Bo).size:Int) by decide)) ?_)|(refine Q35 (he:=(show (Bo).extract 0 (((Bo).size:Int)).toNat=Bo by decide)) ?_)|(refine Q2 (hu:=by (first|exact T.f33_0|exact T.f33_1)) ?_)|(refine Q3 (hu:=by (first|exact T.p3|exact T.p9)) ?_)|refine Q17 T.str9 ?_)|refine R2 ?_|fail)
 refine Kr Tryz.results13 ?_
 exact ⟨rfl,hx1⟩
set_option maxRecDepth 20000 in
theorem Ey {r:Bg} {w:World} (hk:r.kind=1) (hs:r.s=BV):Ctr Tryz.prog 13 [.agg (Aq.enc r).toArray,.string PO] w (fun v w'=>v=.bool true∧Ext w w'):=by
 obtain ⟨kd,s,n,p,l,c⟩:=r
 simp only at hk hs
 subst hk hs
 refine Ac Tryz.func13 Tryz.ntmps13 rfl rfl rfl ?_
 repeat' (refine R1 ?_)
 refine Q1 ?_;refine Q8 ?_;intro a2 w1 ha2 hA2 hx1 hs1
 replace hA2:Blk w1.heap a2 33 (Aq.enc ⟨1,BV,n,p,l,c⟩):=hA2
 repeat' (first|refine R1 ?_|(refine Q1 ?_;first|(refine Q92 T.str9 (h0:=Int.natCast_nonneg _) (h1:=(show ((PO).size:Int)≤((BV).size:Int) by decide)) ?_)|(refine Q35 (he:=(show (BV).extract 0 (((PO).size:Int)).toNat=PO by decide)) ?_)|(refine Q2 (hu:=by (first|exact T.f33_0|exact T.f33_1)) ?_)|(refine Q3 (hu:=by (first|exact T.p3|exact T.p9)) ?_)|refine Q17 T.str9 ?_)|refine R2 ?_|fail)
 refine Kr Tryz.results13 ?_
 exact ⟨rfl,hx1⟩
structure Bw (vs:List Ver) (k:Nat):Prop where
 len:vs.length=k
 ver:∀(i:Nat) v,vs[i]?=some v→v.stamp=((i+1:Nat):Int)∧v.gone=false∧v.exp=0∧v.val.text=CK ((i+1:Nat):Int)∧v.val.kind=1
theorem Bw.nil:Bw [] 0:=⟨rfl,fun i v h=>by simp at h⟩
theorem Bw.snoc {vs:List Ver} {k:Nat} (h:Bw vs k) {v:Ver} (h1:v.stamp=((k+1:Nat):Int)) (h2:v.gone=false) (h3:v.exp=0) (h4:v.val.text=CK ((k+1:Nat):Int)) (h5:v.val.kind=1):Bw (vs++[v]) (k+1) :=
 ⟨by rw [List.length_append,h.len];rfl,fun i x hx=>by
  rcases Ow hx with hx|⟨e,rfl⟩
  ·exact h.ver i x hx
  ·rw [e,h.len];exact ⟨h1,h2,h3,h4,h5⟩⟩
end Go.Proofs.YtkcolpfanmdmiaaGreatDoor
namespace Go.Proofs.YtkcolpfanmdmiaaGreatDoor
open Go.V Go.RowKit Go.Conc
attribute [local irreducible] PlainT
theorem Bw.last {vs:List Ver} {k:Nat} (h:Bw vs k):lastOf vs vs.length≤(k:Int):=by
 unfold lastOf
 split
 ·omega
 ·cases hv:vs[vs.length - 1]? with
  | none=>simp only;omega
  | some v =>
   have:=(h.ver _ v hv).1
   have:=h.len
   simp only
   omega
theorem Bw.upto {vs:List Ver} {k s n:Nat} (h:Bw vs k) (hs:s≤k) (hn:GQ vs (s:Int) n):n=s:=by
 obtain ⟨h1,h2,h3⟩:=hn
 have hl:=h.len
 rcases Nat.lt_trichotomy n s with hlt|he|hgt
 ·obtain ⟨v,hv⟩:=Aj (xs:=vs) (k:=n) (by omega)
  have:=h3 n v (Nat.le_refl _) hv
  have:=(h.ver n v hv).1
  omega
 ·exact he
 ·obtain ⟨v,hv⟩:=Aj (xs:=vs) (k:=s) (by omega)
  have:=h2 s v hgt hv
  have:=(h.ver s v hv).1
  omega
theorem Bw.alive {vs:List Ver} {k i:Nat} {v:Ver} (h:Bw vs k) (hv:vs[i]?=some v) (c:Int):Eh v c:=⟨(h.ver i v hv).2.1,.inl (h.ver i v hv).2.2.1⟩
theorem Bw.pruned {vs:List Ver} {k mk j:Nat} {c:Int} (h:Bw vs k) (hm:mk≤k) (hp:FQ vs (mk:Int) c j):j=mk - 1:=by
 obtain ⟨n,hn,hc⟩:=hp.is
 have e:=h.upto hm hn
 subst e
 rcases hc with ⟨h1,h2⟩|⟨h1,_⟩
 ·rcases Nat.eq_zero_or_pos n with h0|h0
  ·omega
  ·obtain ⟨v,hv⟩:=Aj (xs:=vs) (k:=n - 1) (by have:=h.len;omega)
   exact absurd (h.alive hv c) (h2 v h0 hv)
 ·omega
theorem Bw.small {vs:List Ver} {k j:Nat} (h:Bw vs k) (hk:k≤100):∀v∈vs.drop j,v.val.text.size≤2000:=fun v hv=>by
 obtain ⟨i,hi⟩:=List.getElem?_of_mem (List.mem_of_mem_drop hv)
 rw [(h.ver i v hi).2.2.2.1]
 have:=AR hi
 have:=h.len
 exact Nat.le_trans (Ex (n:=((i+1:Nat):Int)) (by unfold AC;omega)) (by decide)
theorem Bw.seen {vs:List Ver} {k mk a:Nat} {c:Int} {r:Aw} {ok:Bool} (h:Bw vs k) (hma:mk≤a) (hak:a≤k) (hs:Dv (vs.drop (mk - 1)) (a:Int) c r ok):(a=0∧ok=false∧r=EX)∨(1≤a∧ok=true∧r.raw.kind=1∧r.raw.text=CK (a:Int)):=by
 have hl:=h.len
 rcases Nat.eq_zero_or_pos a with h0|h0
 ·left
  subst h0
  obtain rfl:mk=0:=by omega
  cases ok with
  | false=>exact ⟨rfl,rfl,(hs.1 rfl).1⟩
  | true =>
   obtain ⟨v,⟨n,hn,hpos,hv,_⟩,_⟩:=hs.2 rfl
   have e:=h.upto (s:=0) (by omega) (by simpa using hn)
   omega
 ·right
  obtain ⟨v,hv⟩:=Aj (xs:=vs) (k:=a - 1) (by omega)
  obtain ⟨s1,s2,s3,s4,s5⟩:=h.ver _ v hv
  have hu:GQ (vs.drop (mk - 1)) (a:Int) (a - (mk - 1)):=⟨by rw [List.length_drop];omega,fun i y hi hy=>by
   rw [List.getElem?_drop] at hy
   have:=(h.ver _ y hy).1
   omega,fun i y hi hy=>by
   rw [List.getElem?_drop] at hy
   have:=(h.ver _ y hy).1
   omega⟩
  have hv':(vs.drop (mk - 1))[a - (mk - 1) - 1]?=some v:=by
   rw [List.getElem?_drop,show mk - 1+(a - (mk - 1) - 1)=a - 1 by omega];exact hv
  have hsv:Gd (vs.drop (mk - 1)) (a:Int) c v:=⟨_,hu,by omega,hv',h.alive hv c⟩
  have hone:∀y,Gd (vs.drop (mk - 1)) (a:Int) c y→y=v:=fun y ⟨n,hn,hpos,hy,_⟩=>by
   have hnn:n=a - (mk - 1):=by
    obtain ⟨u1,u2,u3⟩:=hn
    obtain ⟨t1,t2,t3⟩:=hu
    rcases Nat.lt_trichotomy n (a - (mk - 1)) with hlt|he|hgt
    ·obtain ⟨z,hz⟩:=Aj (xs:=vs.drop (mk - 1)) (k:=n) (by omega)
     have:=u3 n z (Nat.le_refl _) hz
     have:=t2 n z hlt hz
     omega
    ·exact he
    ·obtain ⟨z,hz⟩:=Aj (xs:=vs.drop (mk - 1)) (k:=a - (mk - 1)) (by omega)
     have:=t3 _ z (Nat.le_refl _) hz
     have:=u2 _ z hgt hz
     omega
   rw [hnn,hv'] at hy
   injection hy with hy
   exact hy.symm
  cases ok with
  | false=>exact absurd hsv ((hs.1 rfl).2 v)
  | true =>
   obtain ⟨y,h1,h2⟩:=hs.2 rfl
   obtain rfl:=hone y h1
   have h3:=(h2 #[]).val
   exact ⟨h0,rfl,by rw [h3.kind];exact s5,by rw [h3.text,s4,show a - 1+1=a by omega]⟩
variable {u : Nat} {a : TG} {last nq : Nat} {Φ : Bg → Prop} {xs : List ByteArray}
set_option maxRecDepth 20000 in
theorem GM:Ctr Tryz.prog 153 [.string EW] w (fun v w'=>v=.bool false∧Ext w w'):=by
 refine Ac Tryz.func153 Tryz.ntmps153 rfl rfl rfl ?_
 repeat' (first|refine R1 ?_|(refine Q1 ?_;(refine Q35 (he:=by decide) ?_))|refine R2 ?_|fail)
 refine Kr Tryz.results153 ?_
 exact ⟨rfl,Kz⟩
set_option maxRecDepth 20000 in
theorem Lc (hC:Blk w.heap cl 190 [.pointer (some (adr (bx m) 0)),.pointer (some (adr (bx a.t) 0))]) (hM:AL g w m st k clk ts) (hi:ts[i]?=some a) (hro:a.ro=true) (hp:BF g w a.mp none) (hS:Cf g w st ix key vs last mark) (hA:Sl w.heap Ar q dq xs) (hk:key.size≤256)
  (hWr:∀w1,Ctr Tryz.prog 153 [.string name] w1 (fun v w'=>v=.bool false∧Ext w1 w'))
  (hDo:∀w1 vw F,RdB w1 a.t m st ix a.mp a.start a.clk F key vs last mark→Blk w1.heap vw 346 [.iface 108 (.pointer (some (adr (bx a.t) 0)))]→Sl w1.heap Ar q dq xs→Ctr Tryz.prog f [.pointer (some (adr (bx vw) 0)),.string name,.slice q xs.length dq] w1 (fun v w'=>∃R,v=.tuple #[.agg (Aq.enc R).toArray,.bool true]∧Φ R∧Ext w1 w')) :
  Ctr Tryz.prog 91 [.pointer (some (adr (bx cl) 0)),.func (.func f) #[] #[],.string name,.slice q xs.length dq] w (fun v w'=>∃R,v=.agg (Aq.enc R).toArray∧Φ R∧Ext w w'):=by
 obtain ⟨F,hR⟩:=PW hM hi hp hS hk
 refine Ac Tryz.func91 Tryz.ntmps91 rfl rfl rfl ?_
 repeat' (refine R1 ?_)
 refine Q1 ?_;refine Q8 ?_;intro b5 w1 hb5 hB5 hx1 hs1
 replace hB5:Blk w1.heap b5 205 [.func (.func f) #[] #[]]:=hB5
 skip
 refine Q1 ?_;refine Q8 ?_;intro b6 w2 hb6 hB6 hx2 hs2
 replace hB6:Blk w2.heap b6 9 [.string name]:=hB6
 skip
 refine Q1 ?_;refine Q8 ?_;intro b7 w3 hb7 hB7 hx3 hs3
 replace hB7:Blk w3.heap b7 61 [.slice q xs.length dq]:=hB7
 skip
 refine Q1 ?_;refine Q7 T.zero33 ?_;intro a8 w4 ha8 hA8 hx4 hs4
 have hx24:=(hx2.trans hx3).trans hx4
 have hx04:=hx1.trans hx24
 have hC4:=hC.ext hx04
 have hB54:=hB5.ext hx24
 have hB64:=hB6.ext (hx3.trans hx4)
 have hB74:=hB7.ext hx4
 have hR4:=hR.ext hx04
 have hT4:=(hp.txn hM (List.mem_of_getElem? hi)).ext hx04
 rw [hro] at hT4
 repeat' (first|refine R1 ?_|(refine Q1 ?_;first|refine Q49 Tryz.underlying108 ?_|(refine Q4 (f:=152) (hc:=XL hT4) ?_;rintro _ _ ⟨rfl,rfl⟩;refine Kc ?_)|(refine Q4 (f:=153) (hc:=hWr _) ?_;rintro _ w4' ⟨rfl,hx4'⟩;refine Kc ?_;replace hB54:=hB54.ext (Kx hx4');replace hB64:=hB64.ext (Kx hx4');replace hB74:=hB74.ext (Kx hx4');replace hC4:=hC4.ext (Kx hx4');replace hR4:=hR4.ext (Kx hx4');replace hA8:=hA8.ext (Kx hx4'))|(refine Q2 (hu:=T.f190_1) ?_)|(refine Q3 (hu:=by (first|exact T.p108|exact T.p9)) ?_))|refine R2 ?_|fail)
 all_goals try (exfalso;simp only at *;omega)
 refine Q1 ?_;refine Q22 (hc:=Ls hB54 hB64 hB74 (fun w1 vw hx hv=>hDo w1 vw F (hR4.ext hx) hv ((hA.ext (hx04.trans hx4')).ext hx))) ?_;rintro _ w5 ⟨R,rfl,hRR,hx5⟩;refine Kc ?_
 have hA85:=hA8.ext hx5
 refine Q1 ?_;refine Q5 T.z33 hA85 ?_;intro w6 hA6 hg6 hs6
 replace hA6:Blk w6.heap a8 33 (Aq.enc R):=hA6
 repeat' (first|refine R1 ?_|refine R2 ?_|fail)
 refine Ze Tryz.results91 ⟨_,_,_,rfl,rfl,Ae T.a33 (by assumption) rfl,rfl⟩ ?_
 have z3:=((hx1.trans hx2).trans hx3).size
 exact ⟨R,rfl,hRR,((hx04.trans hx4').trans hx5).own hg6 (fun k hk=>by injection hk;omega)⟩
theorem NU (hD:Db g w ix st k m lg d key vs last mark clk ts nn used) (hi:ts[i]?=some a) (hro:a.ro=true) (hp:BF g w a.mp none) (hC:Bk g w j cl 190 [.pointer (some (adr (bx m) 0)),.pointer (some (adr (bx a.t) 0))]) (hA:SlT g w jw Ar q dq [EW,key]) (hk:key.size≤256) :
  Ctr Tryz.prog 58 [.pointer (some (adr (bx cl) 0)),.slice q 2 dq] w (fun v w'=>∃R,v=.tuple #[.agg (Aq.enc R).toArray,.bool false]∧∃g',Stq ix [] g g' w w'∧Seen ix st m k lg d key vs last mark clk ts nn used (Gp a.clk) a.start a.clk R g' w'):=by
 refine Ia (Ψ:=Seen ix st m k lg d key vs last mark clk ts nn used (Gp a.clk) a.start a.clk) (fun R g1 w1 g2 w2 h hs=>h.stp hs (fun t ht=>by simp at ht;omega)) (by decide) hC.blk hA (by decide) (by decide) (fun w1=>IE) (fun w1=>EB (Gu (.inr (.inl rfl)))) (fun w1 q' d' hx hS=>?_)
 have hD1:=hD.stp (ix:=ix) (T:=[]) (g':=rt g w 0) (Stq.of_ext hx 0) (fun t ht=>by cases ht)
 refine (Lc (Φ:=fun R=>∃r ok,R=(Gp a.clk) r ok∧Dv vs a.start a.clk r ok) (hC.ext hx 0).blk hD1.mgr hi hro (hp.ext hx 0) hD1.sto hS.sl hk (fun _=>GM) ?_).mono ?_
 ·intro w2 vw F hR hv hW
  refine (TS hR hv hW).mono ?_
  rintro v w' ⟨r,ok,rfl,h1,h2⟩
  exact ⟨_,rfl,⟨r,ok,rfl,h1⟩,h2⟩
 ·rintro v w' ⟨R,rfl,hR,hx2⟩
  exact ⟨R,rfl,rt (rt g w 0) w1 0,Stq.of_ext hx2 0,hR,hD1.stp (ix:=ix) (T:=[]) (Stq.of_ext hx2 0) (fun t ht=>by cases ht)⟩
theorem Bq (h:Hse W0 g w ix hb sb dk m k slot log clk cs n) (hP:Pow W0) (hE:CL W0) (hi:cs[i]?=some x) (hn:n≤190) (hD:Db g w ix st k m lg d key vs last mark clk ts nn used) (hu:ts[u]?=some a) (hro:a.ro=true) (hp:BF g w a.mp none) (hC:Bk g w (x.b+4) x.cl 190 [.pointer (some (adr (bx m) 0)),.pointer (some (adr (bx a.t) 0))]) (hW:Sl w.heap Ar q dq [EW,key]) (hk:key.size≤256) (hv:∀v∈vs,v.val.text.size≤2000) :
  Ctr Tryz.prog 10 [.pointer (some (adr (bx hb) 0)),.int .i64 (i:Int),.slice q 2 dq] w (fun v w'=>∃R r g',v=.agg (Aq.enc r).toArray∧r.kind=R.kind∧r.s=R.s∧r.n=R.n∧Stq ix (Nq x []) g g' w w'∧Hse W0 g' w' ix hb sb dk m k slot log clk cs (n+4)∧Seen ix st m k lg d key vs last mark clk ts nn used (Gp a.clk) a.start a.clk R g' w'):=by
 obtain ⟨ou,hc0⟩:=h.con
 have hb:=(hc0.one i x hi).2.2.1
 exact JF h hP hE hi hn (EH (l:=[EW,key]) (by simp) (by simp) (fun z hz=>by simp only [List.mem_cons,List.not_mem_nil,or_false] at hz;rcases hz with rfl|rfl <;> first|decide|omega)) hW (fun t ht=>by cases ht)
  (fun R g1 w1 g2 w2 hw hs=>hw.stp hs (fun t ht=>by simp at ht;omega)) (fun R g1 w1 hw=>by obtain ⟨⟨r,ok,rfl,h1⟩,-⟩:=hw;exact Um h1 hv)
  (fun g1 w1 q2 d2 hS hA=>NU (hD.stp hS (fun t ht=>by simp at ht;omega)) hu hro (hp.stp hS (by simp;omega)) (hC.stp hS (by simp;omega)) hA hk)
def sK:ByteArray:=⟨#[107]⟩
structure OldI (W0:World) (ix hb sb dk m k st lg:Nat) (cs:List Cn) (x0 x1 x2:Cn) (S y:Nat) (g:Nat→Nat) (w:World):Prop where
 c0:Bk g w (x0.b+4) x0.cl 190 [.pointer (some (adr (bx m) 0)),.pointer none]
 c1:Bk g w (x1.b+4) x1.cl 190 [.pointer (some (adr (bx m) 0)),.pointer none]
 ex:∃vs ts used n,Hse W0 g w ix hb sb dk m k (200:Nat) (2000:Nat) 0 cs n∧n≤8 * y∧Db g w ix st k m lg dk sK vs y 0 0 ts 2000 used∧Bw vs y∧used≤2 * y ∧
  (ts=[]∧(S=0∨y<S)∧Bk g w (x2.b+4) x2.cl 190 [.pointer (some (adr (bx m) 0)),.pointer none]∨1≤S∧S≤y∧∃t mp,ts=[⟨t,((S - 1:Nat):Int),0,false,mp⟩])
set_option maxRecDepth 20000 in
theorem IG {nn at_ held:Int} (hf1:AC nn) (hf2:AC at_) (hf3:AC held) (hP:Pow w) (hE:CL w):Ctr Tryz.prog 3 [.int .i64 nn,.int .i64 at_,.int .i64 held] w (fun v w'=>v=.bool true∧Ext w w'):=by
 obtain ⟨K,hK⟩:∃K:Nat,nn % 12=(K:Int):=⟨(nn % 12).toNat,by omega⟩
 obtain ⟨S,hS⟩:∃S:Nat,held % 14=(S:Int):=⟨(held % 14).toNat,by omega⟩
 obtain ⟨J,hJ⟩:∃J:Nat,at_ % 15=(J:Int):=⟨(at_ % 15).toNat,by omega⟩
 have hK1:K≤11:=by omega
 have hS1:S≤13:=by omega
 have hJ1:J≤14:=by omega
 refine Ac Tryz.func3 Tryz.ntmps3 rfl rfl rfl ?_
 repeat' (first|refine R1 ?_|(refine Q1 ?_;first|(refine Q4 (f:=6) (hc:=PE hP hE) ?_;rintro _ w1 ⟨rfl,hx1⟩;refine Kc ?_)|(refine Q4 (f:=8) (hc:=JW) ?_;rintro _ w2 ⟨rfl,hx2⟩;refine Kc ?_))|refine R2 ?_|fail)
 refine Q1 ?_;refine Q4 (hc:=KE (each:=200) (nn:=2000) (j:=3) (key:=sK) (by decide) (by decide) (by decide) (by decide)) ?_;rintro _ w3 ⟨g3,ix,hb,sb,dk,m,k,lg,st,cs,rfl,hO3,hcs⟩;refine Kc ?_
 have hP2:Pow w2:=FD hP (hx1.trans hx2)
 have hE2:CL w2:=CL.ext hE (hx1.trans hx2)
 have hH3:=hO3.hse
 have hD3:=hO3.db
 obtain ⟨x0,hx0⟩:=Aj (xs:=cs) (k:=0) (by omega)
 obtain ⟨x1,hx1'⟩:=Aj (xs:=cs) (k:=1) (by omega)
 obtain ⟨x2,hx2'⟩:=Aj (xs:=cs) (k:=2) (by omega)
 have hb0:=(hO3.con.one 0 x0 hx0).2.2.1
 have hb1:=(hO3.con.one 1 x1 hx1').2.2.1
 have hb2:=(hO3.con.one 2 x2 hx2').2.2.1
 have hC03:=hO3.cli 0 x0 hx0
 have hC13:=hO3.cli 1 x1 hx1'
 have hC23:=hO3.cli 2 x2 hx2'
 repeat' (first|refine R1 ?_|(refine Q1 ?_;first|(refine Q15 Tryz.underlying23 (t:=23) ?_)|(refine Q4 (f:=9) (hc:=LY (by decide) (by decide) hf1) ?_;rintro _ _ ⟨rfl,rfl⟩;refine Kc ?_)|(refine Q4 (f:=9) (hc:=LY (by decide) (by decide) hf3) ?_;rintro _ _ ⟨rfl,rfl⟩;refine Kc ?_))|refine R2 ?_|fail)
 rw [hK,hS]
 refine Zh (ι:=Nat) (fun y=>[(1,.int .i64 at_),(7,.pointer (some (adr (bx hb) 0))),(8,.int .i64 (K:Int)),(9,.int .i64 (S:Int)),(10,.int .i64 ((y+1:Nat):Int))])
  (fun y w'=>∃g',OldI w2 ix hb sb dk m k st lg cs x0 x1 x2 S y g' w'∧y≤K) (fun y=>K - y) 0
  ⟨rfl,rfl,rfl,rfl,rfl,trivial⟩ ⟨g3,⟨hC03,hC13,[],[],0,0,hH3,by omega,hD3,Bw.nil,by omega,.inl ⟨rfl,by omega,hC23⟩⟩,Nat.zero_le _⟩ ?_
 rintro y w4 ⟨g4,⟨c04,c14,vs,ts,used,n,hH4,hn4,hD4,hT,hu4,hts⟩,hyK⟩
 by_cases hlt:y<K
 ·by_cases hSy:S=y+1
  ·obtain ⟨rfl,hc24⟩:ts=[]∧Bk g4 w4 (x2.b+4) x2.cl 190 [.pointer (some (adr (bx m) 0)),.pointer none]:=by
    rcases hts with ⟨h1,_,h2⟩|⟨_,h2,_⟩
    ·exact ⟨h1,h2⟩
    ·omega
   repeat' (first|refine R1 ?_|refine R2 ?_|(apply Za;exact rfl;all_goals (intro h;try (exfalso;omega)))|fail)
   all_goals try (exfalso;simp only at *;omega)
   refine Q1 ?_
   refine Q24 Ar [El] T.s61 ?_
   intro p5 w5 ho5 hx5 hz5
   refine Q1 ?_;refine Q4 (hc:=Rb (hH4.xt hx5 0) hP2 hE2 hx2' (by omega) (hD4.stp (T:=[]) (Stq.of_ext hx5 0) (fun t ht=>by cases ht)) (hc24.ext hx5 0) ho5.sl (by decide)) ?_;rintro _ w6 ⟨R6,r6,g6,rfl,-,-,-,hS6,hHs,hW6⟩;refine Kc ?_
   obtain ⟨rfl,t,mp,hDs,hp6,hC26⟩:=hW6
   have c0s:=(c04.ext hx5 0).stp hS6 (by simp;omega)
   have c1s:=(c14.ext hx5 0).stp hS6 (by simp;omega)
   repeat' (first|refine R1 ?_|(refine Q1 ?_;(refine Q4 (f:=11) (hc:=Ck (n:=((y+1:Nat):Int)) (by unfold AC;omega)) ?_;rintro _ w7 ⟨rfl,hx7⟩;refine Kc ?_))|fail)
   have hsz:(CK ((y+1:Nat):Int)).size≤20:=Ex (by unfold AC;omega)
   refine Q1 ?_
   refine Q24 Ar [Hz,sK,CK ((y+1:Nat):Int)] T.s61 (hpos:=by (simp)) (hs24:=by (simp)) ?_
   intro p8 w8 ho8 hx8 hz8
   have hx78:=hx7.trans hx8
   have hsec:DX (22+sK.size+(CK ((y+1:Nat):Int)).size)≤2:=by
    unfold DX
    have:sK.size=1:=rfl
    omega
   refine Q1 ?_;refine Q4 (hc:=Vm (hHs.xt hx78 0) hP2 hE2 hx0 (by omega) (hDs.stp (T:=[]) (Stq.of_ext hx78 0) (fun t ht=>by cases ht)) (c0s.ext hx78 0) ho8.sl (by simp) (by have:=hT.len;omega) (by omega) hT.last (by decide) (by omega) (by decide) (by omega)) ?_;rintro _ w9 ⟨R9,r9,g9,rfl,-,-,-,hS9,hH9,hW9⟩;refine Kc ?_
   obtain ⟨rfl,yy,y1,y2,y3,hD9⟩:=hW9
   have c09:=(c0s.ext hx78 0).stp hS9 (by simp;omega)
   have c19:=(c1s.ext hx78 0).stp hS9 (by simp;omega)
   repeat' (first|refine R1 ?_|refine R2 ?_|fail)
   exact Zc (y+1) ⟨rfl,rfl,rfl,rfl,rfl,trivial⟩ ⟨g9,⟨c09,c19,_,_,_,_,hH9,by omega,hD9,hT.snoc rfl y1 y2 y3 rfl,by omega,.inr ⟨by omega,by omega,t,mp,by rw [hSy];rfl⟩⟩,by omega⟩ (by omega)
  ·have hHs:=hH4
   have hDs:=hD4
   have c0s:=c04
   have c1s:=c14
   have htl:ts.length≤1:=by
    rcases hts with ⟨h1,_⟩|⟨_,_,t,mp,h1⟩ <;> rw [h1] <;> simp
   repeat' (first|refine R1 ?_|(refine Q1 ?_;(refine Q4 (f:=11) (hc:=Ck (n:=((y+1:Nat):Int)) (by unfold AC;omega)) ?_;rintro _ w7 ⟨rfl,hx7⟩;refine Kc ?_))|refine R2 ?_|(apply Za;exact rfl;all_goals (intro h;try (exfalso;omega)))|fail)
   all_goals try (exfalso;simp only at *;omega)
   have hsz:(CK ((y+1:Nat):Int)).size≤20:=Ex (by unfold AC;omega)
   refine Q1 ?_
   refine Q24 Ar [Hz,sK,CK ((y+1:Nat):Int)] T.s61 (hpos:=by (simp)) (hs24:=by (simp)) ?_
   intro p8 w8 ho8 hx8 hz8
   have hx78:=hx7.trans hx8
   have hsec:DX (22+sK.size+(CK ((y+1:Nat):Int)).size)≤2:=by
    unfold DX
    have:sK.size=1:=rfl
    omega
   refine Q1 ?_;refine Q4 (hc:=Vm (hHs.xt hx78 0) hP2 hE2 hx0 (by omega) (hDs.stp (T:=[]) (Stq.of_ext hx78 0) (fun t ht=>by cases ht)) (c0s.ext hx78 0) ho8.sl (by omega) (by have:=hT.len;omega) (by omega) hT.last (by decide) (by omega) (by decide) (by omega)) ?_;rintro _ w9 ⟨R9,r9,g9,rfl,-,-,-,hS9,hH9,hW9⟩;refine Kc ?_
   obtain ⟨rfl,yy,y1,y2,y3,hD9⟩:=hW9
   have c09:=(c0s.ext hx78 0).stp hS9 (by simp;omega)
   have c19:=(c1s.ext hx78 0).stp hS9 (by simp;omega)
   repeat' (first|refine R1 ?_|refine R2 ?_|fail)
   refine Zc (y+1) ⟨rfl,rfl,rfl,rfl,rfl,trivial⟩ ⟨g9,⟨c09,c19,_,_,_,_,hH9,by omega,hD9,hT.snoc rfl y1 y2 y3 rfl,by omega,?_⟩,by omega⟩ (by omega)
   rcases hts with ⟨h1,h2,h3⟩|⟨h1,h2,h3⟩
   ·exact .inl ⟨h1,by omega,(h3.ext hx78 0).stp hS9 (by simp;omega)⟩
   ·exact .inr ⟨h1,by omega,h3⟩
 ·obtain rfl:y=K:=by omega
  obtain ⟨M,hM⟩:∃M:Nat,M=if 1≤S∧S≤y then S - 1 else y:=⟨_,rfl⟩
  have hMy:M≤y:=by split at hM <;> omega
  have hlow:Kj ts (y:Int)=(M:Int):=by
   rcases hts with ⟨rfl,h2,_⟩|⟨h1,h2,t,mp,rfl⟩
   ·rw [if_neg (by omega)] at hM;rw [hM];rfl
   ·rw [if_pos ⟨h1,h2⟩] at hM
    show min (y:Int) ((S - 1:Nat):Int)=_
    omega
  have hta:∀a∈ts,((0:Nat):Int)≤a.start:=fun a ha=>by
   rcases hts with ⟨rfl,_⟩|⟨_,_,t,mp,rfl⟩
   ·cases ha
   ·simp only [List.mem_singleton] at ha;subst ha;exact Int.natCast_nonneg _
  have htl:ts.length≤1:=by
   rcases hts with ⟨h1,_⟩|⟨_,_,t,mp,h1⟩ <;> rw [h1] <;> simp
  have b4:=hH4.hs.blk
  repeat' (first|refine R1 ?_|(refine Q1 ?_;first|(apply Zi;exact rfl;exact GX _;exact rfl)|(refine Q2 (hu:=T.f39_0) ?_)|(refine Q3 (hu:=T.p37) ?_))|refine R2 ?_|(apply Za;exact rfl;all_goals (intro h;try (exfalso;omega)))|fail)
  all_goals try (exfalso;simp only at *;omega)
  refine Q1 ?_
  refine Q12 Cr ⟨6,0,0,none,0,0⟩ T.s67 ?_
  intro p17 w17 hp17 hs17 hb17 hx17 hz17
  have hD17:=hD4.stp (T:=[]) (Stq.of_ext hx17 0) (fun t ht=>by cases ht)
  have hH17:=hH4.xt hx17 0
  refine Q1 ?_;refine Q4 (hc:=JO (ix:=ix) hH17.srv hD17.mgr hD17.sto hta (Nat.zero_le _) hs17) ?_;rintro _ w18 ⟨g18,mk,jj,hS18,hM18,hmk,hpr,hT18⟩;refine Kc ?_
  obtain rfl:mk=M:=by rw [hlow] at hmk;omega
  obtain rfl:=hT.pruned hMy hpr
  obtain ⟨sg17,sv17,ds17,hK17⟩:=hD17.kep
  have hD18:=(⟨hM18,hT18,sg17,sv17,ds17,hK17.stp hS18 (by decide) (by decide) (by decide)⟩:Db g18 w18 ix st k m lg dk sK _ _ _ 0 _ _ _)
  have hX18:Stq ix [3] _ g18 w4 w18:=(Stq.of_ext hx17 0).trans hS18
  have hH18:=hH4.stp hX18 (fun t ht=>by simp at ht;omega)
  have c018:=c04.stp hX18 (by simp <;> omega)
  have c118:=c14.stp hX18 (by simp <;> omega)
  repeat' (refine R1 ?_)
  refine Q1 ?_
  refine Q24 Ar [EK] T.s61 ?_
  intro p19 w19 ho19 hx19 hz19
  refine Q1 ?_;refine Q4 (hc:=Np (hH18.xt hx19 0) hP2 hE2 hx0 (by omega) (hD18.stp (T:=[]) (Stq.of_ext hx19 0) (fun t ht=>by cases ht)) (c018.ext hx19 0) ho19.sl (by omega)) ?_;rintro _ w20 ⟨R20,r20,g20,rfl,e201,e202,e203,hS20,hH20,hW20⟩;refine Kc ?_
  obtain ⟨rfl,hD20⟩:=hW20
  have q20:r20.n=(mk:Int):=e203
  have c120:=(c118.ext hx19 0).stp hS20 (by simp;omega)
  have hfJ:AC (J:Int):=by unfold AC;omega
  have hsJ:(CK (J:Int)).size≤20:=Ex hfJ
  by_cases hSK:1≤S∧S≤y
  ·rw [if_pos hSK] at hM
   repeat' (first|refine R1 ?_|(refine Q1 ?_;first|(refine Q41 (WV _) ?_)|(refine Q4 (f:=9) (hc:=LY (by decide) (by decide) hf2) ?_;rintro _ _ ⟨rfl,rfl⟩;refine Kc ?_))|refine R2 ?_|(apply Za;exact rfl;all_goals (intro h;try (exfalso;omega)))|((fail_if_success (refine Q1 ?_));apply Zb;exact rfl;exact rfl;all_goals (intro h;try (exfalso;omega)))|fail)
   all_goals try (exfalso;simp only at *;omega)
   rw [hJ]
   repeat' (refine Q1 ?_;(refine Q4 (f:=11) (hc:=Ck hfJ) ?_;rintro _ w21 ⟨rfl,hx21⟩;refine Kc ?_))
   refine Q1 ?_
   refine Q24 Ar [El,sRO,sAT,CK (J:Int)] T.s61 (hpos:=by (simp)) (hs24:=by (simp)) ?_
   intro p22 w22 ho22 hx22 hz22
   have hx2022:=hx21.trans hx22
   refine Q1 ?_;refine Q4 (hc:=BN (hH20.xt hx2022 0) hP2 hE2 hx1' (by omega) (hD20.stp (T:=[]) (Stq.of_ext hx2022 0) (fun t ht=>by cases ht)) (c120.ext hx2022 0) ho22.sl (by omega) ⟨hfJ,rfl⟩ (Int.natCast_nonneg _) (by omega)) ?_;rintro _ w23 ⟨R23,r23,g23,rfl,e231,e232,e233,hS23,hH23,hW23⟩;refine Kc ?_
   obtain ⟨e,pt,ts',hD23,hC23',rfl,hcase⟩:=hW23
   skip
   refine Q1 ?_;refine Q7 T.zero33 ?_;intro a24 w24 ha24 hA24 hx24 hs24
   skip
   refine Q1 ?_;refine Q5 T.z33 hA24 ?_;intro w25 hA25 hg25 hs25
   replace hA25:Blk w25.heap a24 33 (Aq.enc r23):=hA25
   have hx2325:Ext w23 w25:=hx24.own hg25 (fun k hk=>by injection hk;omega)
   rcases hcase with ⟨rfl,h1⟩|⟨rfl,h1,h2⟩|⟨rfl,h1,h2,t,mp,rfl,rfl,hp23⟩
   ·repeat' (first|refine R1 ?_|(refine Q1 ?_;first|(refine Q4 (f:=13) (hc:=Du (e231:r23.kind=1) (e232:r23.s=Bo)) ?_;rintro _ w26 ⟨rfl,hx26⟩;refine Kc ?_)|refine Q11 T.a33 ?_)|refine R2 ?_|(apply Za;exact rfl;all_goals (intro h;try (exfalso;omega)))|fail)
    refine Kr Tryz.results3 ?_
    exact ⟨rfl,((hx1.trans hx2).trans hH23.bs.ext).trans (hx2325.trans hx26)⟩
   ·repeat' (first|refine R1 ?_|(refine Q1 ?_;first|(refine Q4 (f:=13) (hc:=Ey (e231:r23.kind=1) (e232:r23.s=BV)) ?_;rintro _ w26 ⟨rfl,hx26⟩;refine Kc ?_)|refine Q11 T.a33 ?_)|refine R2 ?_|(apply Za;exact rfl;all_goals (intro h;try (exfalso;omega)))|fail)
    refine Kr Tryz.results3 ?_
    exact ⟨rfl,((hx1.trans hx2).trans hH23.bs.ext).trans (hx2325.trans hx26)⟩
   ·have s23:r23.s=sOK:=e232
    have hH25:=hH23.xt hx2325 0
    have hD25:=hD23.stp (T:=[]) (Stq.of_ext hx2325 0) (fun t ht=>by cases ht)
    have hp25:=hp23.ext hx2325 0
    have hC25:=hC23'.ext hx2325 0
    have hm1:mk≤J:=by omega
    have hm2:J≤y:=by omega
    by_cases hJ0:J=0
    ·repeat' (first|refine R1 ?_|(refine Q1 ?_;first|(refine Q35 (he:=s23) ?_)|(refine Q2 (hu:=T.f33_1) ?_)|(refine Q3 (hu:=T.p9) ?_))|refine R2 ?_|(apply Za;exact rfl;all_goals (intro h;try (exfalso;omega)))|fail)
     refine Q1 ?_
     refine Q24 Ar [EW,sK] T.s61 ?_
     intro p27 w27 ho27 hx27 hz27
     refine Q1 ?_;refine Q4 (hc:=Bq (u:=ts.length) (a:=⟨t,(J:Int),0,true,mp⟩) (hH25.xt hx27 0) hP2 hE2 hx1' (by omega) (hD25.stp (T:=[]) (Stq.of_ext hx27 0) (fun t ht=>by cases ht)) (by simp) rfl (hp25.ext hx27 0) (hC25.ext hx27 0) ho27.sl (by decide) (hT.small (by omega))) ?_;rintro _ w28 ⟨R28,r28,g28,rfl,e281,e282,e283,hS28,hH28,hW28⟩;refine Kc ?_
     obtain ⟨⟨rr,ok,rfl,hSn⟩,-⟩:=hW28
     have k28:r28.kind=4:=by
      rcases hT.seen hm1 hm2 hSn with ⟨_,_,h4⟩|⟨h3,_⟩
      ·rw [e281,h4];rfl
      ·omega
     repeat' (first|refine R1 ?_|(refine Q1 ?_;(refine Q41 (TZ _) ?_))|refine R2 ?_|fail)
     refine Kr Tryz.results3 ?_
     exact ⟨congrArg Value.bool (decide_eq_true k28),(hx1.trans hx2).trans hH28.bs.ext⟩
    ·repeat' (first|refine R1 ?_|(refine Q1 ?_;first|(refine Q35 (he:=s23) ?_)|(refine Q2 (hu:=T.f33_1) ?_)|(refine Q3 (hu:=T.p9) ?_))|refine R2 ?_|(apply Za;exact rfl;all_goals (intro h;try (exfalso;omega)))|fail)
     refine Q1 ?_
     refine Q24 Ar [EW,sK] T.s61 ?_
     intro p27 w27 ho27 hx27 hz27
     refine Q1 ?_;refine Q4 (hc:=Bq (u:=ts.length) (a:=⟨t,(J:Int),0,true,mp⟩) (hH25.xt hx27 0) hP2 hE2 hx1' (by omega) (hD25.stp (T:=[]) (Stq.of_ext hx27 0) (fun t ht=>by cases ht)) (by simp) rfl (hp25.ext hx27 0) (hC25.ext hx27 0) ho27.sl (by decide) (hT.small (by omega))) ?_;rintro _ w28 ⟨R28,r28,g28,rfl,e281,e282,e283,hS28,hH28,hW28⟩;refine Kc ?_
     obtain ⟨⟨rr,ok,rfl,hSn⟩,-⟩:=hW28
     have k28:r28.s=CK (J:Int):=by
      rcases hT.seen hm1 hm2 hSn with ⟨h3,_⟩|⟨_,_,h4,h5⟩
      ·omega
      ·rw [e282]
       unfold Gp Dp
       rw [h4,h5]
       rfl
     repeat' (first|refine R1 ?_|(refine Q1 ?_;first|(refine Q41 (WW _) ?_)|(refine Q4 (f:=11) (hc:=Ck hfJ) ?_;rintro _ w29 ⟨rfl,hx29⟩;refine Kc ?_))|refine R2 ?_|fail)
     refine Kr Tryz.results3 ?_
     exact ⟨congrArg Value.bool (decide_eq_true k28),((hx1.trans hx2).trans hH28.bs.ext).trans hx29⟩
  ·rw [if_neg hSK] at hM
   by_cases hS0:1≤S
   ·repeat' (first|refine R1 ?_|(refine Q1 ?_;first|(refine Q41 (WV _) ?_)|(refine Q4 (f:=9) (hc:=LY (by decide) (by decide) hf2) ?_;rintro _ _ ⟨rfl,rfl⟩;refine Kc ?_))|refine R2 ?_|(apply Za;exact rfl;all_goals (intro h;try (exfalso;omega)))|((fail_if_success (refine Q1 ?_));apply Zb;exact rfl;exact rfl;all_goals (intro h;try (exfalso;omega)))|fail)
    all_goals try (exfalso;simp only at *;omega)
    rw [hJ]
    repeat' (refine Q1 ?_;(refine Q4 (f:=11) (hc:=Ck hfJ) ?_;rintro _ w21 ⟨rfl,hx21⟩;refine Kc ?_))
    refine Q1 ?_
    refine Q24 Ar [El,sRO,sAT,CK (J:Int)] T.s61 (hpos:=by (simp)) (hs24:=by (simp)) ?_
    intro p22 w22 ho22 hx22 hz22
    have hx2022:=hx21.trans hx22
    refine Q1 ?_;refine Q4 (hc:=BN (hH20.xt hx2022 0) hP2 hE2 hx1' (by omega) (hD20.stp (T:=[]) (Stq.of_ext hx2022 0) (fun t ht=>by cases ht)) (c120.ext hx2022 0) ho22.sl (by omega) ⟨hfJ,rfl⟩ (Int.natCast_nonneg _) (by omega)) ?_;rintro _ w23 ⟨R23,r23,g23,rfl,e231,e232,e233,hS23,hH23,hW23⟩;refine Kc ?_
    obtain ⟨e,pt,ts',hD23,hC23',rfl,hcase⟩:=hW23
    skip
    refine Q1 ?_;refine Q7 T.zero33 ?_;intro a24 w24 ha24 hA24 hx24 hs24
    skip
    refine Q1 ?_;refine Q5 T.z33 hA24 ?_;intro w25 hA25 hg25 hs25
    replace hA25:Blk w25.heap a24 33 (Aq.enc r23):=hA25
    have hx2325:Ext w23 w25:=hx24.own hg25 (fun k hk=>by injection hk;omega)
    rcases hcase with ⟨rfl,h1⟩|⟨rfl,h1,h2⟩|⟨rfl,h1,h2,t,mp,rfl,rfl,hp23⟩
    ·repeat' (first|refine R1 ?_|(refine Q1 ?_;first|(refine Q4 (f:=13) (hc:=Du (e231:r23.kind=1) (e232:r23.s=Bo)) ?_;rintro _ w26 ⟨rfl,hx26⟩;refine Kc ?_)|refine Q11 T.a33 ?_)|refine R2 ?_|(apply Za;exact rfl;all_goals (intro h;try (exfalso;omega)))|fail)
     refine Kr Tryz.results3 ?_
     exact ⟨rfl,((hx1.trans hx2).trans hH23.bs.ext).trans (hx2325.trans hx26)⟩
    ·repeat' (first|refine R1 ?_|(refine Q1 ?_;first|(refine Q4 (f:=13) (hc:=Ey (e231:r23.kind=1) (e232:r23.s=BV)) ?_;rintro _ w26 ⟨rfl,hx26⟩;refine Kc ?_)|refine Q11 T.a33 ?_)|refine R2 ?_|(apply Za;exact rfl;all_goals (intro h;try (exfalso;omega)))|fail)
     refine Kr Tryz.results3 ?_
     exact ⟨rfl,((hx1.trans hx2).trans hH23.bs.ext).trans (hx2325.trans hx26)⟩
    ·have s23:r23.s=sOK:=e232
     have hH25:=hH23.xt hx2325 0
     have hD25:=hD23.stp (T:=[]) (Stq.of_ext hx2325 0) (fun t ht=>by cases ht)
     have hp25:=hp23.ext hx2325 0
     have hC25:=hC23'.ext hx2325 0
     have hm1:mk≤J:=by omega
     have hm2:J≤y:=by omega
     by_cases hJ0:J=0
     ·repeat' (first|refine R1 ?_|(refine Q1 ?_;first|(refine Q35 (he:=s23) ?_)|(refine Q2 (hu:=T.f33_1) ?_)|(refine Q3 (hu:=T.p9) ?_))|refine R2 ?_|(apply Za;exact rfl;all_goals (intro h;try (exfalso;omega)))|fail)
      refine Q1 ?_
      refine Q24 Ar [EW,sK] T.s61 ?_
      intro p27 w27 ho27 hx27 hz27
      refine Q1 ?_;refine Q4 (hc:=Bq (u:=ts.length) (a:=⟨t,(J:Int),0,true,mp⟩) (hH25.xt hx27 0) hP2 hE2 hx1' (by omega) (hD25.stp (T:=[]) (Stq.of_ext hx27 0) (fun t ht=>by cases ht)) (by simp) rfl (hp25.ext hx27 0) (hC25.ext hx27 0) ho27.sl (by decide) (hT.small (by omega))) ?_;rintro _ w28 ⟨R28,r28,g28,rfl,e281,e282,e283,hS28,hH28,hW28⟩;refine Kc ?_
      obtain ⟨⟨rr,ok,rfl,hSn⟩,-⟩:=hW28
      have k28:r28.kind=4:=by
       rcases hT.seen hm1 hm2 hSn with ⟨_,_,h4⟩|⟨h3,_⟩
       ·rw [e281,h4];rfl
       ·omega
      repeat' (first|refine R1 ?_|(refine Q1 ?_;(refine Q41 (TZ _) ?_))|refine R2 ?_|fail)
      refine Kr Tryz.results3 ?_
      exact ⟨congrArg Value.bool (decide_eq_true k28),(hx1.trans hx2).trans hH28.bs.ext⟩
     ·repeat' (first|refine R1 ?_|(refine Q1 ?_;first|(refine Q35 (he:=s23) ?_)|(refine Q2 (hu:=T.f33_1) ?_)|(refine Q3 (hu:=T.p9) ?_))|refine R2 ?_|(apply Za;exact rfl;all_goals (intro h;try (exfalso;omega)))|fail)
      refine Q1 ?_
      refine Q24 Ar [EW,sK] T.s61 ?_
      intro p27 w27 ho27 hx27 hz27
      refine Q1 ?_;refine Q4 (hc:=Bq (u:=ts.length) (a:=⟨t,(J:Int),0,true,mp⟩) (hH25.xt hx27 0) hP2 hE2 hx1' (by omega) (hD25.stp (T:=[]) (Stq.of_ext hx27 0) (fun t ht=>by cases ht)) (by simp) rfl (hp25.ext hx27 0) (hC25.ext hx27 0) ho27.sl (by decide) (hT.small (by omega))) ?_;rintro _ w28 ⟨R28,r28,g28,rfl,e281,e282,e283,hS28,hH28,hW28⟩;refine Kc ?_
      obtain ⟨⟨rr,ok,rfl,hSn⟩,-⟩:=hW28
      have k28:r28.s=CK (J:Int):=by
       rcases hT.seen hm1 hm2 hSn with ⟨h3,_⟩|⟨_,_,h4,h5⟩
       ·omega
       ·rw [e282]
        unfold Gp Dp
        rw [h4,h5]
        rfl
      repeat' (first|refine R1 ?_|(refine Q1 ?_;first|(refine Q41 (WW _) ?_)|(refine Q4 (f:=11) (hc:=Ck hfJ) ?_;rintro _ w29 ⟨rfl,hx29⟩;refine Kc ?_))|refine R2 ?_|fail)
      refine Kr Tryz.results3 ?_
      exact ⟨congrArg Value.bool (decide_eq_true k28),((hx1.trans hx2).trans hH28.bs.ext).trans hx29⟩
   ·repeat' (first|refine R1 ?_|(refine Q1 ?_;first|(refine Q41 (WV _) ?_)|(refine Q4 (f:=9) (hc:=LY (by decide) (by decide) hf2) ?_;rintro _ _ ⟨rfl,rfl⟩;refine Kc ?_))|refine R2 ?_|((fail_if_success (refine Q1 ?_));apply Zb;exact rfl;exact rfl;all_goals (intro h;try (exfalso;omega)))|fail)
    all_goals try (exfalso;simp only at *;omega)
    rw [hJ]
    repeat' (refine Q1 ?_;(refine Q4 (f:=11) (hc:=Ck hfJ) ?_;rintro _ w21 ⟨rfl,hx21⟩;refine Kc ?_))
    refine Q1 ?_
    refine Q24 Ar [El,sRO,sAT,CK (J:Int)] T.s61 (hpos:=by (simp)) (hs24:=by (simp)) ?_
    intro p22 w22 ho22 hx22 hz22
    have hx2022:=hx21.trans hx22
    refine Q1 ?_;refine Q4 (hc:=BN (hH20.xt hx2022 0) hP2 hE2 hx1' (by omega) (hD20.stp (T:=[]) (Stq.of_ext hx2022 0) (fun t ht=>by cases ht)) (c120.ext hx2022 0) ho22.sl (by omega) ⟨hfJ,rfl⟩ (Int.natCast_nonneg _) (by omega)) ?_;rintro _ w23 ⟨R23,r23,g23,rfl,e231,e232,e233,hS23,hH23,hW23⟩;refine Kc ?_
    obtain ⟨e,pt,ts',hD23,hC23',rfl,hcase⟩:=hW23
    skip
    refine Q1 ?_;refine Q7 T.zero33 ?_;intro a24 w24 ha24 hA24 hx24 hs24
    skip
    refine Q1 ?_;refine Q5 T.z33 hA24 ?_;intro w25 hA25 hg25 hs25
    replace hA25:Blk w25.heap a24 33 (Aq.enc r23):=hA25
    have hx2325:Ext w23 w25:=hx24.own hg25 (fun k hk=>by injection hk;omega)
    rcases hcase with ⟨rfl,h1⟩|⟨rfl,h1,h2⟩|⟨rfl,h1,h2,t,mp,rfl,rfl,hp23⟩
    ·repeat' (first|refine R1 ?_|(refine Q1 ?_;first|(refine Q4 (f:=13) (hc:=Du (e231:r23.kind=1) (e232:r23.s=Bo)) ?_;rintro _ w26 ⟨rfl,hx26⟩;refine Kc ?_)|refine Q11 T.a33 ?_)|refine R2 ?_|(apply Za;exact rfl;all_goals (intro h;try (exfalso;omega)))|fail)
     refine Kr Tryz.results3 ?_
     exact ⟨rfl,((hx1.trans hx2).trans hH23.bs.ext).trans (hx2325.trans hx26)⟩
    ·repeat' (first|refine R1 ?_|(refine Q1 ?_;first|(refine Q4 (f:=13) (hc:=Ey (e231:r23.kind=1) (e232:r23.s=BV)) ?_;rintro _ w26 ⟨rfl,hx26⟩;refine Kc ?_)|refine Q11 T.a33 ?_)|refine R2 ?_|(apply Za;exact rfl;all_goals (intro h;try (exfalso;omega)))|fail)
     refine Kr Tryz.results3 ?_
     exact ⟨rfl,((hx1.trans hx2).trans hH23.bs.ext).trans (hx2325.trans hx26)⟩
    ·have s23:r23.s=sOK:=e232
     have hH25:=hH23.xt hx2325 0
     have hD25:=hD23.stp (T:=[]) (Stq.of_ext hx2325 0) (fun t ht=>by cases ht)
     have hp25:=hp23.ext hx2325 0
     have hC25:=hC23'.ext hx2325 0
     have hm1:mk≤J:=by omega
     have hm2:J≤y:=by omega
     by_cases hJ0:J=0
     ·repeat' (first|refine R1 ?_|(refine Q1 ?_;first|(refine Q35 (he:=s23) ?_)|(refine Q2 (hu:=T.f33_1) ?_)|(refine Q3 (hu:=T.p9) ?_))|refine R2 ?_|(apply Za;exact rfl;all_goals (intro h;try (exfalso;omega)))|fail)
      refine Q1 ?_
      refine Q24 Ar [EW,sK] T.s61 ?_
      intro p27 w27 ho27 hx27 hz27
      refine Q1 ?_;refine Q4 (hc:=Bq (u:=ts.length) (a:=⟨t,(J:Int),0,true,mp⟩) (hH25.xt hx27 0) hP2 hE2 hx1' (by omega) (hD25.stp (T:=[]) (Stq.of_ext hx27 0) (fun t ht=>by cases ht)) (by simp) rfl (hp25.ext hx27 0) (hC25.ext hx27 0) ho27.sl (by decide) (hT.small (by omega))) ?_;rintro _ w28 ⟨R28,r28,g28,rfl,e281,e282,e283,hS28,hH28,hW28⟩;refine Kc ?_
      obtain ⟨⟨rr,ok,rfl,hSn⟩,-⟩:=hW28
      have k28:r28.kind=4:=by
       rcases hT.seen hm1 hm2 hSn with ⟨_,_,h4⟩|⟨h3,_⟩
       ·rw [e281,h4];rfl
       ·omega
      repeat' (first|refine R1 ?_|(refine Q1 ?_;(refine Q41 (TZ _) ?_))|refine R2 ?_|fail)
      refine Kr Tryz.results3 ?_
      exact ⟨congrArg Value.bool (decide_eq_true k28),(hx1.trans hx2).trans hH28.bs.ext⟩
     ·repeat' (first|refine R1 ?_|(refine Q1 ?_;first|(refine Q35 (he:=s23) ?_)|(refine Q2 (hu:=T.f33_1) ?_)|(refine Q3 (hu:=T.p9) ?_))|refine R2 ?_|(apply Za;exact rfl;all_goals (intro h;try (exfalso;omega)))|fail)
      refine Q1 ?_
      refine Q24 Ar [EW,sK] T.s61 ?_
      intro p27 w27 ho27 hx27 hz27
      refine Q1 ?_;refine Q4 (hc:=Bq (u:=ts.length) (a:=⟨t,(J:Int),0,true,mp⟩) (hH25.xt hx27 0) hP2 hE2 hx1' (by omega) (hD25.stp (T:=[]) (Stq.of_ext hx27 0) (fun t ht=>by cases ht)) (by simp) rfl (hp25.ext hx27 0) (hC25.ext hx27 0) ho27.sl (by decide) (hT.small (by omega))) ?_;rintro _ w28 ⟨R28,r28,g28,rfl,e281,e282,e283,hS28,hH28,hW28⟩;refine Kc ?_
      obtain ⟨⟨rr,ok,rfl,hSn⟩,-⟩:=hW28
      have k28:r28.s=CK (J:Int):=by
       rcases hT.seen hm1 hm2 hSn with ⟨h3,_⟩|⟨_,_,h4,h5⟩
       ·omega
       ·rw [e282]
        unfold Gp Dp
        rw [h4,h5]
        rfl
      repeat' (first|refine R1 ?_|(refine Q1 ?_;first|(refine Q41 (WW _) ?_)|(refine Q4 (f:=11) (hc:=Ck hfJ) ?_;rintro _ w29 ⟨rfl,hx29⟩;refine Kc ?_))|refine R2 ?_|fail)
      refine Kr Tryz.results3 ?_
      exact ⟨congrArg Value.bool (decide_eq_true k28),((hx1.trans hx2).trans hH28.bs.ext).trans hx29⟩
end Go.Proofs.YtkcolpfanmdmiaaGreatDoor
