/- Texts of this proof laid together. -/
import Derived.Test.YtkcolpfanmdmiaaGreatDoorVM19
set_option maxHeartbeats 8000000
open Go Go.V
variable {af : Array Edge} {ops : Array Oper} {buf : Array Value} {Ψ : Bg → (Nat → Nat) → World → Prop} {key num s : ByteArray} {E : Env} {K : Env → World → Prop} {clk clock cn log slot : Int} {l : List ByteArray} {lasts : List Int} {U : List Nat} {ds : List Sec} {ts : List TG} {out outs : List UInt8} {vs : List Ver} {N0 b cl co d d1 d2 dc dk dq each hb i ix j jw k kp last lg m mark n nn qc rd sb sg ss st t t' used : Nat} {dr : Nat × List Nat} {ou : Nat → List UInt8} {g : Nat → Nat} {x y : Operand} {dp po q q1 q2 : Option Addr} {P : Program} {pos : String} {a : TG} {ty : TypeId} {sv : Value} {W0 w : World}
namespace Go.Proofs.YtkcolpfanmdmiaaGreatDoor
open Go.V
attribute [local irreducible] Blk Own hcell Ao Ab PlainT Ak Ad Ap Aa Ag EqT Au
theorem Oc {e:Nat} {r:Bg} {t:Rep} {w:World} (hs0:Ef 5 t) (hr:Cc w.heap e r t) (hne:t.kind≠5) :
  Ctr Tryz.prog 157 [.agg (Aq.enc r).toArray,.int .i64 0] w (fun v w'=>v=.bool (Bu 4 t)∧Ext w w'):=by
 obtain ⟨e,rs,rfl,hk,hs,hn,hl,hsz,hfit,hL⟩:=hr.open
 have n1:=hL.sl.bound
 have hlen:=hL.len
 have hsm:=hs0.1
 refine Ac Tryz.func157 Tryz.ntmps157 rfl rfl rfl ?_
 repeat' (refine R1 ?_)
 refine Q1 ?_;refine Q8 ?_;intro a1 w1 ha1 hA1 hx1 hs1
 replace hA1:Blk w1.heap a1 33 [.int .i64 r.kind,.string r.s,.int .i64 r.n,.slice r.p r.len r.cap]:=hA1
 rw [hk,hs,hn,hl] at hA1
 by_cases hk5:t.kind=5
 rotate_left
 ·rw [Og hk5]
  by_cases hk01:t.kind=0∨t.kind=1
  ·by_cases hn0:t.n=0∧rs.length=0
   ·rw [Gt t (EU t.s) ⟨fun h=>⟨⟨by omega,by omega,by omega,by omega,by omega⟩,fun _=>h⟩,fun h=>h.2 (by omega)⟩]
    repeat' (first|refine R1 ?_|(refine Q1 ?_;first|(refine Q4 (f:=223) (hc:=OY (by omega)) ?_;rintro _ w2 ⟨rfl,hx2⟩;refine Kc ?_)|(refine Q2 (hu:=by (first|exact T.f33_0|exact T.f33_2|exact T.f33_3|exact T.f33_1)) ?_)|(refine Q3 (hu:=by (first|exact T.p3|exact T.p31|exact T.p9)) ?_)|(refine Q6 (hu:=T.s31) ?_))|refine R2 ?_|(apply Za;exact rfl;all_goals (intro h;try (exfalso;omega)))|((fail_if_success (refine Q1 ?_));apply Zb;exact rfl;exact rfl;all_goals (intro h;try (exfalso;omega)))|fail)
    all_goals
     refine Kr Tryz.results157 ?_
     exact ⟨by show Value.bool (!(!EU t.s))=_;rw [Bool.not_not],Kz⟩
   ·rw [De t (fun h=>absurd ⟨h.1.num (by omega),by have:=h.1.list (by omega);omega⟩ hn0)]
    repeat' (first|refine R1 ?_|(refine Q1 ?_;first|(refine Q2 (hu:=by (first|exact T.f33_0|exact T.f33_2|exact T.f33_3)) ?_)|(refine Q3 (hu:=by (first|exact T.p3|exact T.p31)) ?_)|(refine Q6 (hu:=T.s31) ?_))|refine R2 ?_|(apply Za;exact rfl;all_goals (intro h;try (exfalso;omega)))|((fail_if_success (refine Q1 ?_));apply Zb;exact rfl;exact rfl;all_goals (intro h;try (exfalso;omega)))|fail)
    all_goals
     refine Kr Tryz.results157 ?_
     exact ⟨rfl,Kz⟩
  by_cases hk2:t.kind=2
  ·by_cases hse:t.s=⟨#[]⟩
   ·rw [Gt t (decide ((rs.length:Int)=0)) ⟨fun h=>⟨⟨by omega,by omega,by have:=of_decide_eq_true h;omega,by omega,fun _ _ _=>hse⟩,by omega⟩,fun h=>decide_eq_true (by have:=h.1.list (by omega);omega)⟩]
    repeat' (first|refine R1 ?_|(refine Q1 ?_;first|(refine Q2 (hu:=by (first|exact T.f33_0|exact T.f33_3|exact T.f33_1)) ?_)|(refine Q3 (hu:=by (first|exact T.p3|exact T.p31|exact T.p9)) ?_)|(refine Q6 (hu:=T.s31) ?_))|refine R2 ?_|(apply Za;exact rfl;all_goals (intro h;try (exfalso;omega)))|((fail_if_success (refine Q1 ?_));apply Zb;exact rfl;exact rfl;all_goals (intro h;try (exfalso;omega)))|fail)
    all_goals try contradiction
    refine Kr Tryz.results157 ?_
    exact ⟨rfl,Kz⟩
   ·rw [De t (fun h=>absurd (h.1.text (by omega) (by omega) (by omega)) hse)]
    repeat' (first|refine R1 ?_|(refine Q1 ?_;first|(refine Q2 (hu:=by (first|exact T.f33_0|exact T.f33_3|exact T.f33_1)) ?_)|(refine Q3 (hu:=by (first|exact T.p3|exact T.p31|exact T.p9)) ?_)|(refine Q6 (hu:=T.s31) ?_))|refine R2 ?_|(apply Za;exact rfl;all_goals (intro h;try (exfalso;omega)))|((fail_if_success (refine Q1 ?_));apply Zb;exact rfl;exact rfl;all_goals (intro h;try (exfalso;omega)))|fail)
    all_goals try contradiction
    refine Kr Tryz.results157 ?_
    exact ⟨rfl,Kz⟩
  by_cases hk3:t.kind=3
  ·by_cases hn0:t.n=0
   ·rw [Gt t (decide ((rs.length:Int)=0)) ⟨fun h=>⟨⟨by omega,by omega,by have:=of_decide_eq_true h;omega,by omega,by omega⟩,by omega⟩,fun h=>decide_eq_true (by have:=h.1.list (by omega);omega)⟩]
    repeat' (first|refine R1 ?_|(refine Q1 ?_;first|(refine Q2 (hu:=by (first|exact T.f33_0|exact T.f33_2|exact T.f33_3)) ?_)|(refine Q3 (hu:=by (first|exact T.p3|exact T.p31)) ?_)|(refine Q6 (hu:=T.s31) ?_))|refine R2 ?_|(apply Za;exact rfl;all_goals (intro h;try (exfalso;omega)))|((fail_if_success (refine Q1 ?_));apply Zb;exact rfl;exact rfl;all_goals (intro h;try (exfalso;omega)))|fail)
    refine Kr Tryz.results157 ?_
    exact ⟨rfl,Kz⟩
   ·rw [De t (fun h=>absurd (h.1.num (by omega)) hn0)]
    repeat' (first|refine R1 ?_|(refine Q1 ?_;first|(refine Q2 (hu:=by (first|exact T.f33_0|exact T.f33_2)) ?_)|(refine Q3 (hu:=T.p3) ?_))|refine R2 ?_|(apply Za;exact rfl;all_goals (intro h;try (exfalso;omega)))|((fail_if_success (refine Q1 ?_));apply Zb;exact rfl;exact rfl;all_goals (intro h;try (exfalso;omega)))|fail)
    refine Kr Tryz.results157 ?_
    exact ⟨rfl,Kz⟩
  by_cases hk4:t.kind=4
  ·by_cases hse:t.s=⟨#[]⟩
   ·by_cases hn0:t.n=0
    ·rw [Gt t (decide ((rs.length:Int)=0)) ⟨fun h=>⟨⟨by omega,by omega,by have:=of_decide_eq_true h;omega,by omega,fun _ _ _=>hse⟩,by omega⟩,fun h=>decide_eq_true (by have:=h.1.list (by omega);omega)⟩]
     repeat' (first|refine R1 ?_|(refine Q1 ?_;first|(refine Q2 (hu:=by (first|exact T.f33_0|exact T.f33_2|exact T.f33_3|exact T.f33_1)) ?_)|(refine Q3 (hu:=by (first|exact T.p3|exact T.p31|exact T.p9)) ?_)|(refine Q6 (hu:=T.s31) ?_))|refine R2 ?_|(apply Za;exact rfl;all_goals (intro h;try (exfalso;omega)))|((fail_if_success (refine Q1 ?_));apply Zb;exact rfl;exact rfl;all_goals (intro h;try (exfalso;omega)))|fail)
     all_goals try contradiction
     refine Kr Tryz.results157 ?_
     exact ⟨rfl,Kz⟩
    ·rw [De t (fun h=>absurd (h.1.num (by omega)) hn0)]
     repeat' (first|refine R1 ?_|(refine Q1 ?_;first|(refine Q2 (hu:=by (first|exact T.f33_0|exact T.f33_2|exact T.f33_1)) ?_)|(refine Q3 (hu:=by (first|exact T.p3|exact T.p9)) ?_))|refine R2 ?_|(apply Za;exact rfl;all_goals (intro h;try (exfalso;omega)))|((fail_if_success (refine Q1 ?_));apply Zb;exact rfl;exact rfl;all_goals (intro h;try (exfalso;omega)))|fail)
     all_goals try contradiction
     refine Kr Tryz.results157 ?_
     exact ⟨rfl,Kz⟩
   ·rw [De t (fun h=>absurd (h.1.text (by omega) (by omega) (by omega)) hse)]
    repeat' (first|refine R1 ?_|(refine Q1 ?_;first|(refine Q2 (hu:=by (first|exact T.f33_0|exact T.f33_2|exact T.f33_3|exact T.f33_1)) ?_)|(refine Q3 (hu:=by (first|exact T.p3|exact T.p31|exact T.p9)) ?_)|(refine Q6 (hu:=T.s31) ?_))|refine R2 ?_|(apply Za;exact rfl;all_goals (intro h;try (exfalso;omega)))|((fail_if_success (refine Q1 ?_));apply Zb;exact rfl;exact rfl;all_goals (intro h;try (exfalso;omega)))|fail)
    all_goals try contradiction
    refine Kr Tryz.results157 ?_
    exact ⟨rfl,Kz⟩
  ·rw [De t (fun h=>by have:=h.1.lo;have:=h.1.hi;omega)]
   repeat' (first|refine R1 ?_|(refine Q1 ?_;first|(refine Q2 (hu:=T.f33_0) ?_)|(refine Q3 (hu:=T.p3) ?_))|refine R2 ?_|(apply Za;exact rfl;all_goals (intro h;try (exfalso;omega)))|fail)
   refine Kr Tryz.results157 ?_
   exact ⟨rfl,Kz⟩
 exact absurd hk5 hne
theorem PU {e:Nat} {r:Bg} {t:Rep} {w:World} (hs0:Ef 5 t) (hr:Cc w.heap e r t) (hne:t.kind≠5) :
  Ctr Tryz.prog 95 [.agg (Aq.enc r).toArray] w (fun v w'=>v=.bool (Bu 4 t)∧Ext w w'):=by
 refine Ac Tryz.func95 Tryz.ntmps95 rfl rfl rfl ?_
 repeat' (refine R1 ?_)
 refine Q1 ?_;refine Q8 ?_;intro a1 w1 ha1 hA1 hx1 hs1
 replace hA1:Blk w1.heap a1 33 (Aq.enc r):=hA1
 replace hr:=hr.ext hx1
 repeat' (first|refine R1 ?_|(refine Q1 ?_;refine Q11 T.a33 ?_)|fail)
 refine Q1 ?_;refine Q4 (hc:=Oc hs0 hr hne) ?_;rintro _ w2 ⟨rfl,hx2⟩;refine Kc ?_
 repeat' (first|refine R1 ?_|refine R2 ?_|fail)
 refine Kr Tryz.results95 ?_
 exact ⟨rfl,Kz⟩
theorem Sv {w0:World} (hT:Pow w0):∀{e:Nat} {r:Bg} {t:Rep} {w:World} {B a aL aP:Nat} {tL tP:TypeId} {p:Option Addr} {c:Nat} {bs:List UInt8},Bu 4 t=true→t.kind≠5→Cc w0.heap e r t→EO w0 w B a aL aP tL tP p c bs→bs.length+(wT 4 t).length≤1000000000 →
  Ctr Tryz.prog 93 [.agg (Aq.enc r).toArray,.pointer (some (adr (bx aL) 0)),.pointer (some (adr (bx a) 0)),.pointer (some (adr (bx aP) 0))] w (fun v w'=>v=.tuple #[]∧∃p' c',EO w0 w' B a aL aP tL tP p' c' (bs++wT 4 t)):=by
 intro e r t w B a aL aP tL tP p c bs hri hne hr h hlen
 have hlf:=FX hri
 obtain ⟨e,rs,rfl,hk,hs,hn,hl,hsz,hfit,hL⟩:=hr.open
 simp only [maxLen] at hsz
 have n1:=hL.sl.bound
 have hll:=hL.len
 have hlo:=hlf.lo
 have hhi:=hlf.hi
 refine Ac Tryz.func93 Tryz.ntmps93 rfl rfl rfl ?_
 repeat' (refine R1 ?_)
 refine Q1 ?_;refine Q8 ?_;intro a4 w1 ha4 hA1 hx1 hs1
 replace hA1:Blk w1.heap a4 33 [.int .i64 r.kind,.string r.s,.int .i64 r.n,.slice r.p r.len r.cap]:=hA1
 rw [hk,hs,hn,hl] at hA1
 have h1:=h.xt hx1
 rcases (show t.kind=0∨t.kind=1∨t.kind=2∨t.kind=3∨t.kind=4∨t.kind=5 by omega) with hk0|hk0|hk0|hk0|hk0|hk0
 ·have ew:wT 4 t=43 :: (t.s.data.toList++Bp):=by simp [wT,BC,hk0]
  rw [ew] at hlen ⊢
  have hln:=h1.line
  repeat' (first|refine R1 ?_|(refine Q1 ?_;first|(refine Q3 (hu:=plL) (hb:=hln) ?_)|(refine Q2 (hu:=by (first|exact T.f33_0|exact T.f33_1)) ?_)|(refine Q3 (hu:=by (first|exact T.p3|exact T.p9)) ?_))|refine R2 ?_|(apply Za;exact rfl;all_goals (intro h;try (exfalso;omega)))|fail)
  refine Q1 ?_;refine Q22 (hc:=by exact Eb (m:=43) (by decide) h1 (by rw [Di];simp only [List.length_cons,List.length_append] at hlen;omega)) ?_;rintro _ w2 ⟨rfl,p2,c2,h2,x2⟩;refine Kc ?_
  repeat' (first|refine R1 ?_|refine R2 ?_|fail)
  refine Zk Tryz.results93 (vs:=[]) rfl ?_
  exact ⟨rfl,p2,c2,h2⟩
 ·have ew:wT 4 t=45 :: (t.s.data.toList++Bp):=by simp [wT,BC,hk0]
  rw [ew] at hlen ⊢
  have hln:=h1.line
  repeat' (first|refine R1 ?_|(refine Q1 ?_;first|(refine Q3 (hu:=plL) (hb:=hln) ?_)|(refine Q2 (hu:=by (first|exact T.f33_0|exact T.f33_1)) ?_)|(refine Q3 (hu:=by (first|exact T.p3|exact T.p9)) ?_))|refine R2 ?_|(apply Za;exact rfl;all_goals (intro h;try (exfalso;omega)))|fail)
  refine Q1 ?_;refine Q22 (hc:=by exact Eb (m:=45) (by decide) h1 (by rw [Di];simp only [List.length_cons,List.length_append] at hlen;omega)) ?_;rintro _ w2 ⟨rfl,p2,c2,h2,x2⟩;refine Kc ?_
  repeat' (first|refine R1 ?_|refine R2 ?_|fail)
  refine Zk Tryz.results93 (vs:=[]) rfl ?_
  exact ⟨rfl,p2,c2,h2⟩
 ·have ew:wT 4 t=58 :: (Lib.itoa t.n++Bp):=by simp [wT,BC,hk0]
  rw [ew] at hlen ⊢
  obtain ⟨g,hg⟩:∃g,g=Df p a:=⟨_,rfl⟩
  have hgB:g=a∨B≤g:=by
   rw [hg]
   cases hbk:blk p with
   | none=>left;unfold Df;rw [hbk];rfl
   | some k=>right;unfold Df;rw [hbk];exact (h1.own.ge k hbk).1
  have q1:=h1.h1
  have q2:=h1.h2
  have q4:=h1.h4
  have q5:=h1.hB
  have hgw:g<w1.heap.size:=by
   rw [hg]
   cases hbk:blk p with
   | none=>unfold Df;rw [hbk];show a<_;omega
   | some k=>unfold Df;rw [hbk];exact (h1.own.ge k hbk).2
  have hgw0:g<w.heap.size:=by
   rw [hg]
   cases hbk:blk p with
   | none=>unfold Df;rw [hbk];show a<_;have:=h.hB;omega
   | some k=>unfold Df;rw [hbk];exact (h.own.ge k hbk).2
  have xL:AA [a,g,g] aL=false:=Gn q4 (by omega)
  have xA:AA [a,g,g] a4=false:=Gn (by have:=h.hB;omega) (by omega)
  have hln:=h1.line
  repeat' (first|refine R1 ?_|(refine Q1 ?_;first|(refine Q2 (hu:=T.f33_0) ?_)|(refine Q3 (hu:=T.p3) ?_))|refine R2 ?_|(apply Za;exact rfl;all_goals (intro h;try (exfalso;omega)))|fail)
  refine Zf 1 [a,g,g] [0,1,2,3,4] mixed (by decide +kernel) ?_
  repeat' (refine Q1 ?_;first|(refine Q31 (hu:=plL) (hb:=hln) (hS:=xL) ?_)|(refine Q2 (hu:=T.f33_2) ?_)|(refine Q31 (hu:=T.p3) ?_))
  refine Q1 ?_;refine Q36 (hc:=EI hfit.1 hfit.2 (TabIs.ext hT (Ext.drew h1.ext))) ?_;rintro _ w3 ⟨rfl,hx3⟩;refine ⟨(by first|exact .inl rfl|exact .inr hx3.toS),?_⟩
  replace hx3:Ext w1 w3:=(Ext.drew Ext.rfl').trans hx3
  have h3:=h1.xt hx3
  skip
  refine Q1 ?_
  refine Q70 (hc:=by exact Eb (m:=58) (by decide) h3 (by rw [QE];simp only [List.length_cons,List.length_append] at hlen;omega)) ?_
  rintro _ w4' ⟨rfl,p4,c4,h4,x4⟩
  refine ⟨.inr (by rw [hg];exact x4),?_⟩
  have hA4:=x4.blk (hA1.ext hx3) (by rw [← hg];exact xA)
  repeat' (first|refine R1 ?_|refine R2 ?_|fail)
  refine Zk Tryz.results93 (vs:=[]) rfl ?_
  rw [Uf] at h4
  exact ⟨rfl,p4,c4,h4⟩
 ·have ew:wT 4 t=36 :: (Lib.itoa t.s.size++Bp++(t.s.data.toList++Bp)):=by simp [wT,BC,hk0]
  rw [ew] at hlen ⊢
  obtain ⟨g,hg⟩:∃g,g=Df p a:=⟨_,rfl⟩
  have hgB:g=a∨B≤g:=by
   rw [hg]
   cases hbk:blk p with
   | none=>left;unfold Df;rw [hbk];rfl
   | some k=>right;unfold Df;rw [hbk];exact (h1.own.ge k hbk).1
  have q1:=h1.h1
  have q2:=h1.h2
  have q4:=h1.h4
  have q5:=h1.hB
  have hgw:g<w1.heap.size:=by
   rw [hg]
   cases hbk:blk p with
   | none=>unfold Df;rw [hbk];show a<_;omega
   | some k=>unfold Df;rw [hbk];exact (h1.own.ge k hbk).2
  have hgw0:g<w.heap.size:=by
   rw [hg]
   cases hbk:blk p with
   | none=>unfold Df;rw [hbk];show a<_;have:=h.hB;omega
   | some k=>unfold Df;rw [hbk];exact (h.own.ge k hbk).2
  have xL:AA [a,g,g] aL=false:=Gn q4 (by omega)
  have xA:AA [a,g,g] a4=false:=Gn (by have:=h.hB;omega) (by omega)
  have hln:=h1.line
  repeat' (first|refine R1 ?_|(refine Q1 ?_;first|(refine Q2 (hu:=T.f33_0) ?_)|(refine Q3 (hu:=T.p3) ?_))|refine R2 ?_|(apply Za;exact rfl;all_goals (intro h;try (exfalso;omega)))|fail)
  refine Zf 1 [a,g,g] [0,1,2,3,4,5] mixed (by decide +kernel) ?_
  repeat' (refine Q1 ?_;first|(refine Q31 (hu:=plL) (hb:=hln) (hS:=xL) ?_)|(refine Q2 (hu:=T.f33_1) ?_)|(refine Q31 (hu:=T.p9) ?_)|refine Q17 T.str9 ?_)
  refine Q1 ?_;refine Q36 (hc:=EI (by omega) (by omega) (TabIs.ext hT (Ext.drew h1.ext))) ?_;rintro _ w3 ⟨rfl,hx3⟩;refine ⟨(by first|exact .inl rfl|exact .inr hx3.toS),?_⟩
  replace hx3:Ext w1 w3:=(Ext.drew Ext.rfl').trans hx3
  have h3:=h1.xt hx3
  skip
  refine Q1 ?_
  refine Q70 (hc:=by exact Eb (m:=36) (by decide) h3 (by rw [QE];simp only [List.length_cons,List.length_append] at hlen;omega)) ?_
  rintro _ w4' ⟨rfl,p4,c4,h4,x4⟩
  refine ⟨.inr (by rw [hg];exact x4),?_⟩
  have hA4:=x4.blk (hA1.ext hx3) (by rw [← hg];exact xA)
  rw [Uf] at h4
  have hb:=h4.box
  have hO:=h4.own
  have hBB:=h4.hB
  have hss:t.s.data.toList.length=t.s.size:=by rw [Array.length_toList];rfl
  simp only [List.length_cons,List.length_append,hss,Bp,List.length_nil] at hlen
  repeat' (first|(refine Q1 ?_;first|(refine Q43 T.s40 T.str9 hO hBB (s:=t.s) (hlen:=by (simp only [List.length_append,List.length_cons,List.length_nil,Bp];omega)) (hmax:=by (simp only [List.length_append,List.length_cons,List.length_nil,Bp];omega)) ?_;intro p5 c5 w5 ha5)|(refine Q2 (hu:=T.f33_1) ?_)|(refine Q3 (hu:=by (first|exact T.p9|exact T.p40)) ?_))|refine R1 ?_|fail)
  have hb6:=h4.box.grown ha5.grown (fun e=>by have:=(h4.own.ge a e).1;have:=h4.h1;omega)
  refine Q1 ?_;refine Q5 T.z40 hb6 ?_;intro w6 hc6 hg6 hs6
  replace hc6:Blk w6.heap a 40 [.slice _ _ _]:=hc6
  obtain ⟨h6,x6⟩:=h4.app ha5 hc6 hg6
  have hb:=h6.box
  have hO:=h6.own
  have hBB:=h6.hB
  repeat' (first|(refine Q1 ?_;first|(refine Q43 T.s40 T.str9 hO hBB (s:=⟨#[13,10]⟩) (hlen:=by (simp only [List.length_append,List.length_cons,List.length_nil,hss,Bp];show (_+2) * _≤_;omega)) (hmax:=by (simp only [List.length_append,List.length_cons,List.length_nil,hss,Bp];show _+2≤_;omega)) ?_;intro p7 c7 w7 ha7)|(refine Q3 (hu:=T.p40) ?_))|refine R1 ?_|fail)
  have hb8:=h6.box.grown ha7.grown (fun e=>by have:=(h6.own.ge a e).1;have:=h6.h1;omega)
  refine Q1 ?_;refine Q5 T.z40 hb8 ?_;intro w8 hc8 hg8 hs8
  replace hc8:Blk w8.heap a 40 [.slice _ _ _]:=hc8
  obtain ⟨h8,x8⟩:=h6.app ha7 hc8 hg8
  have hb:=h8.box
  have hO:=h8.own
  have hBB:=h8.hB
  repeat' (first|refine R1 ?_|refine R2 ?_|fail)
  refine Zk Tryz.results93 (vs:=[]) rfl ?_
  have e0:bs++(36 :: (Lib.itoa t.s.size++Bp))++t.s.data.toList++(⟨#[13,10]⟩:ByteArray).data.toList=bs++(36 :: (Lib.itoa t.s.size++Bp++(t.s.data.toList++Bp))):=by simp [Bp]
  rw [e0] at h8
  exact ⟨rfl,p7,c7,h8⟩
 ·have ew:wT 4 t=36 :: ((⟨#[45,49]⟩:ByteArray).data.toList++Bp):=by simp [wT,BC,hk0]
  rw [ew] at hlen ⊢
  have hln:=h1.line
  repeat' (first|refine R1 ?_|(refine Q1 ?_;first|(refine Q3 (hu:=plL) (hb:=hln) ?_)|(refine Q2 (hu:=T.f33_0) ?_)|(refine Q3 (hu:=T.p3) ?_))|refine R2 ?_|(apply Za;exact rfl;all_goals (intro h;try (exfalso;omega)))|fail)
  refine Q1 ?_;refine Q22 (hc:=by exact Eb (m:=36) (s:=⟨#[45,49]⟩) (by decide) h1 (by show bs.length+2≤_;simp only [List.length_cons,List.length_append] at hlen;omega)) ?_;rintro _ w2 ⟨rfl,p2,c2,h2,x2⟩;refine Kc ?_
  repeat' (first|refine R1 ?_|refine R2 ?_|fail)
  refine Zk Tryz.results93 (vs:=[]) rfl ?_
  exact ⟨rfl,p2,c2,h2⟩
 ·exact absurd hk0 hne
theorem Qm {e:Nat} {p:Option Addr} {c:Nat} {rs:List Bg} {ts:List Rep} {w:World} (hC:Dr w.heap e p c rs ts) (hsm:∀t∈ts,Ef 5 t) (hk5:∀t∈ts,t.kind≠5) (hN:(wR ts).length≤1000000000) (hT:Pow w) :
  Ctr Tryz.prog 59 [.slice p rs.length c] w (fun v w'=>∃p' c',v=.slice p' (wR ts).length c'∧Sl w'.heap Ai p' c' (wR ts)∧Ext w w'):=by
 have n1:=hC.sl.bound
 have hll:=hC.len
 refine Ac Tryz.func59 Tryz.ntmps59 rfl rfl rfl ?_
 repeat' (refine R1 ?_)
 refine Q1 ?_;refine Q7 T.zero40 ?_;intro a1 w1 ha1 hA1 hx1 hs1
 replace hA1:Blk w1.heap a1 40 [.slice none 0 0]:=hA1
 repeat' (first|refine R1 ?_|refine R2 ?_|fail)
 refine Q1 ?_;refine Q7 zrL ?_;intro a2 w2 ha2 hA2 hx2 hs2
 replace hA1:=hA1.ext hx2
 skip
 refine Q1 ?_;refine Q5 szL hA2 (hm:=Nat.le_of_ble_eq_true rfl) (h1:=by (focus (simp [Value.cells,Value.oneCell']))) (hw:=.inl rfl) ?_;intro w3 hA3 hg3 hs3
 replace hA3:Blk w3.heap a2 208 [.func (.func 92) #[] #[.pointer (some (adr (bx a1) 0))]]:=hA3
 replace hA1:=hA1.grown hg3 (fun e=>by injection e;omega)
 have hx3:Ext w w3:=(hx1.trans hx2).own hg3 (fun k hk=>by injection hk;omega)
 repeat' (refine R1 ?_)
 refine Q1 ?_;refine Q7 zrP ?_;intro a4 w4 ha4 hA4 hx4 hs4
 replace hA1:=hA1.ext hx4
 replace hA3:=hA3.ext hx4
 repeat' (first|refine R1 ?_|refine R2 ?_|fail)
 refine Q1 ?_;refine Q5 szP hA4 (hm:=Nat.le_of_ble_eq_true rfl) (h1:=by (focus (simp [Value.cells,Value.oneCell']))) (hw:=.inl rfl) ?_;intro w5 hA5 hg5 hs5
 replace hA5:Blk w5.heap a4 209 [.func (.func 93) #[] #[.pointer (some (adr (bx a2) 0)),.pointer (some (adr (bx a1) 0)),.pointer (some (adr (bx a4) 0))]]:=hA5
 replace hA1:=hA1.grown hg5 (fun e=>by injection e;omega)
 replace hA3:=hA3.grown hg5 (fun e=>by injection e;omega)
 have hx5:Ext w w5:=(hx3.trans hx4).own hg5 (fun k hk=>by injection hk;omega)
 have h5:EO w w5 w5.heap.size a1 a2 a4 208 209 none 0 []:=⟨hx5,hA1,hA3,hA5,Own.nil _ _ _ _,by omega,by omega,by omega,by omega,by omega,by omega,Nat.le_refl _⟩
 repeat' (first|refine R1 ?_|(refine Q1 ?_;(refine Q6 (hu:=T.s31) ?_))|refine R2 ?_|fail)
 refine Zh (ι:=Nat × Option Addr × Nat) (fun y=>[(3,.pointer (some (adr (bx a1) 0))),(5,.pointer (some (adr (bx a4) 0))),(10,.slice p rs.length c),(11,.int .i64 (rs.length:Int)),(12,.int .i64 (y.1:Int))])
  (fun y w'=>EO w w' w5.heap.size a1 a2 a4 208 209 y.2.1 y.2.2 (wR (ts.take y.1))∧y.1≤rs.length) (fun y=>rs.length - y.1) (0,none,0) ⟨rfl,rfl,rfl,rfl,rfl,trivial⟩ ⟨h5,Nat.zero_le _⟩ ?_
 rintro ⟨i,p6,c6⟩ w6 ⟨h6,hi⟩
 simp only at h6 hi
 refine Zn [(3,.pointer (some (adr (bx a1) 0))),(5,.pointer (some (adr (bx a4) 0))),(10,.slice p rs.length c),(11,.int .i64 (rs.length:Int)),(12,.int .i64 (i:Int))] ⟨rfl,rfl,rfl,rfl,rfl,trivial⟩ ?_
 have hC6:=hC.ext h6.ext
 have hsl6:=hC6.sl
 by_cases hlt:i<rs.length
 ·obtain ⟨r',hr'⟩:=Aj hlt
  obtain ⟨t',ht'⟩:=Aj (xs:=ts) (k:=i) (by omega)
  have hst:=hsm t' (List.mem_of_getElem? ht')
  have hsn:=WL ht'
  have hle:=MK (fun t=>if Bu 4 t=true then wT 4 t else []) ts (i+1)
  have hle2:(wR (ts.take (i+1))).length≤(wR ts).length:=hle
  repeat' (first|(refine Q1 ?_;first|refine Q13 T.s31 ?_|refine Q14 T.a33 ?_)|refine R1 ?_|refine R2 ?_|(apply Za;exact rfl;all_goals (intro h;try (exfalso;omega)))|fail)
  refine Q1 ?_;refine Q7 T.zero33 ?_;intro a7 w7 ha7 hA7 hx7 hs7
  replace hsl6:=hsl6.ext hx7
  skip
  refine Q1 ?_;refine Q5 T.z33 hA7 ?_;intro w8 hA8 hg8 hs8
  replace hA8:Blk w8.heap a7 33 (Aq.enc r'):=hA8
  have hx68:Ext w6 w8:=hx7.own hg8 (fun k hk=>by injection hk;omega)
  have h8:=h6.xt hx68
  have hat:=(hC6.get i r' t' hr' ht').ext hx68
  repeat' (first|(refine Q1 ?_;refine Q11 T.a33 ?_)|refine R1 ?_|fail)
  refine Q1 ?_;refine Q4 (hc:=PU hst hat (hk5 t' (List.mem_of_getElem? ht'))) ?_;rintro _ w9 ⟨rfl,hx9⟩;refine Kc ?_
  replace hA8:=hA8.ext hx9
  have h9:=h8.xt hx9
  have hpt:=h9.put
  cases hrt:Bu 4 t' with
  | true =>
   rw [hrt,if_pos rfl] at hsn
   rw [hsn,List.length_append] at hle2
   repeat' (first|(refine Q1 ?_;first|(refine Q3 (hu:=plP) (hb:=hpt) ?_)|refine Q11 T.a33 ?_)|refine R1 ?_|refine R2 ?_|fail)
   refine Q1 ?_;refine Q22 (hc:=by exact Sv hT hrt (hk5 t' (List.mem_of_getElem? ht')) (hC.get i r' t' hr' ht') h9 (by omega)) ?_;rintro _ w10 ⟨rfl,p10,c10,h10⟩;refine Kc ?_
   repeat' (first|refine R1 ?_|refine R2 ?_|fail)
   exact Zc (i+1,p10,c10) ⟨rfl,rfl,rfl,rfl,rfl,trivial⟩ ⟨by simp only;rw [hsn];exact h10,by simp only;omega⟩ (by simp only;omega)
  | false =>
   rw [hrt,if_neg (by simp),List.append_nil] at hsn
   repeat' (first|refine R1 ?_|refine R2 ?_|fail)
   exact Zc (i+1,p6,c6) ⟨rfl,rfl,rfl,rfl,rfl,trivial⟩ ⟨by simp only;rw [hsn];exact h9,by simp only;omega⟩ (by simp only;omega)
 ·rw [List.take_of_length_le (by omega)] at h6
  have hb:=h6.box
  repeat' (first|refine R1 ?_|(refine Q1 ?_;(refine Q3 (hu:=T.p40) ?_))|refine R2 ?_|(apply Za;exact rfl;all_goals (intro h;try (exfalso;omega)))|fail)
  refine Kr Tryz.results59 ?_
  exact ⟨p6,c6,rfl,h6.own.sl,h6.ext⟩
open Go.V Go.RowKit Go.Conc
structure Bs (W0:World) (ix:Nat) (g:Nat→Nat) (w:World):Prop where
 ext:Ext W0 w
 tag:∀k,k<W0.heap.size→g k=0
 ix:W0.heap.size≤ix
theorem Bs.stp {W0:World} {ix:Nat} {T:List Nat} {g g':Nat→Nat} {w w':World} (h:Bs W0 ix g w) (s:Stq ix T g g' w w') (h0:0 ∉ T):Bs W0 ix g' w' :=
 ⟨s.toE h.ext h.tag h.ix h0,fun k hk=>(s.tags k (Nat.lt_of_lt_of_le hk h.ext.size)).trans (h.tag k hk),h.ix⟩
def trR (R:Bg):Rep:=.mk R.kind R.s R.n []
structure Lf (R:Bg):Prop where
 leaf:R=Av R.kind R.s R.n
 right:Bu 4 (trR R)=true
 fits:AC R.n
 small:R.s.size≤2000
 kind:R.kind≠5
def Ed (R:Bg):List UInt8:=wT 4 (trR R)
theorem Ke {n:Int} (h:AC n):(Lib.itoa n).length≤20:=by rw [← QE];exact Ex h
theorem Te {t:Rep} (h1:t.s.size≤2000) (h2:AC t.n) (h5:t.l.length≤10):(BC t).length≤3000:=by
 have h2:=Ke h2
 have h3:(Lib.itoa (t.s.size:Int)).length≤20:=Ke (by unfold AC;omega)
 have h4:t.s.data.toList.length=t.s.size:=by rw [Array.length_toList];rfl
 have h6:(Lib.itoa (t.l.length:Int)).length≤20:=Ke (by unfold AC;omega)
 have h7:Bp.length=2:=rfl
 unfold BC
 repeat' split
 all_goals (simp only [List.length_cons,List.length_append,List.length_nil];omega)
theorem MV {R:Bg}:Ed R=BC (trR R):=by
 show BC (trR R)++(if (trR R).kind=5 then (trR R).l.flatMap (wT 3) else [])=_
 have:(if (trR R).kind=5 then (trR R).l.flatMap (wT 3) else [])=[]:=by split <;> rfl
 rw [this,List.append_nil]
theorem Fj {R:Bg} (h:Lf R):(Ed R).length≤3000:=by
 rw [MV]
 exact Te h.small h.fits (Nat.zero_le _)
theorem Lf.reps {R:Bg} (h:Lf R) {H:Array Obj} {p:Option Addr} {c:Nat} (hs:Sl H Aq p c [R]):Dr H 1 p c [R] [trR R]:=by
 refine ⟨hs,rfl,fun i r t hr ht=>?_⟩
 match i with
 | 0 =>
  injection hr with hr
  injection ht with ht
  subst hr ht
  have hm:(2000:Nat)≤maxLen:=by decide
  have hf:=h.fits
  have hsm:=h.small
  unfold AC at hf
  refine ⟨rfl,rfl,rfl,by rw [h.leaf];rfl,by show R.s.size≤maxLen;omega,by show _∧_;exact ⟨hf.1,hf.2⟩,[],?_,rfl,fun i r' t' h=>by simp at h⟩
  rw [h.leaf]
  refine ⟨⟨Nat.le_refl _,Nat.zero_le _,fun _=>rfl,fun a ha=>?_⟩,fun i x hi=>by simp at hi⟩
  cases ha
 | i+1=>simp at hr
theorem Lf.wr {R:Bg} (h:Lf R):wR [trR R]=Ed R:=by
 unfold wR Ed
 simp [h.right]
theorem SF (h:AV g w b ss cl rd qc none 0 [] #[]):Ctr Tryz.prog 41 [.pointer (some (adr (bx ss) 0))] w (fun v w'=>v=.bool false∧w=w'):=by
 refine Ac Tryz.func41 Tryz.ntmps41 rfl rfl rfl ?_
 repeat' (first|refine R1 ?_|(refine Q1 ?_;(refine Q4 (f:=57) (hc:=HY h (by simp)) ?_;rintro _ _ ⟨rfl,rfl⟩;refine Kc ?_))|refine R2 ?_|fail)
 refine Kr Tryz.results41 ?_
 exact ⟨rfl,rfl⟩
set_option maxRecDepth 20000 in
theorem UJ (hB:Bs W0 ix g w) (hT:Pow W0) (h:AV g w b ss cl rd qc none 0 [] #[.slice q2 l.length d2]) (h0U:0 ∉ U) (hbU:b ∉ U) (hrU:b+3 ∉ U) (hb0:b≠0)
  (hst:∀R g1 w1 g2 w2,Ψ R g1 w1→Stq ix [0,b] g1 g2 w1 w2→Ψ R g2 w2) (hLf:∀R g1 w1,Ψ R g1 w1→Lf R)
  (hDo:∀g1 w1,Stq ix [b] g g1 w w1→Ctr Tryz.prog 58 [.pointer (some (adr (bx cl) 0)),.slice q2 l.length d2] w1 (fun v w'=>∃R,v=.tuple #[.agg (Aq.enc R).toArray,.bool false]∧∃g',Stq ix U g1 g' w1 w'∧Ψ R g' w')) :
  Ctr Tryz.prog 41 [.pointer (some (adr (bx ss) 0))] w (fun v w'=>v=.bool true∧∃R g' po co,Stq ix (b :: U) g g' w w'∧AV g' w' b ss cl rd qc po co (Ed R) #[]∧Ψ R g' w'):=by
 have hb:=h.box.blk
 obtain ⟨s,r,hch⟩:=h.ch.ex
 refine Ac Tryz.func41 Tryz.ntmps41 rfl rfl rfl ?_
 repeat' (first|(refine ZV 0 rfl rfl ?_)|refine R1 ?_|(refine Q1 ?_;first|(refine Q4 (f:=57) (hc:=HY h (by simp)) ?_;rintro _ _ ⟨rfl,rfl⟩;refine Kc ?_)|(refine Q3 (t:=127) (hu:=T.p127) (hb:=hb) ?_)|(refine Q2 (hu:=T.f129_2) ?_))|refine R2 ?_|fail)
 refine ⟨_,_,Ik.recv rfl hch (by simp) QX rfl,?_⟩
 have hg1:=Cx.gr (w:=w) (c:=qc) (cap:=64) (buf:=(#[Value.slice q2 l.length d2]).extract 1 (#[Value.slice q2 l.length d2]).size) (s:=s) (r:=r+1)
 have hS1:=h.ch.stpG (T:=[b]) (ix:=ix) (buf':=(#[Value.slice q2 l.length d2]).extract 1 (#[Value.slice q2 l.length d2]).size) s (r+1) 0 (by simp)
 have hch1:=h.ch.set (buf':=(#[Value.slice q2 l.length d2]).extract 1 (#[Value.slice q2 l.length d2]).size) s (r+1) 0
 have hB1:=h.box.turn hg1 (fun e=>h.ch.neB h.box (by injection e)) 0
 have hR1:=h.rd.stp hS1 (by simp)
 generalize hw1:w.setChan qc 64 ((#[Value.slice q2 l.length d2]).extract 1 (#[Value.slice q2 l.length d2]).size) false s (r+1) false=w1 at *
 have hx1:(#[Value.slice q2 l.length d2]).extract 1 (#[Value.slice q2 l.length d2]).size=#[]:=by simp
 rw [hx1] at hch1
 have hb1:=hB1.blk
 repeat' (first|refine R1 ?_|(refine Q1 ?_;first|(refine Q3 (t:=125) (hu:=T.p125) (hb:=hb1) ?_)|(refine Q2 (hu:=T.f129_0) ?_))|refine R2 ?_|fail)
 refine Q1 ?_;refine Q4 (hc:=hDo _ _ hS1) ?_;rintro _ w2 ⟨R,rfl,g2,hS2,hΨ⟩;refine Kc ?_
 have hL:=hLf _ _ _ hΨ
 have hB2:=hB1.stp hS2 hbU
 have hch2:=hch1.stp hS2 hbU
 have hR2:=hR1.stp hS2 hrU
 repeat' (refine Q1 ?_;first|refine Q19 ?_|refine Q33 ?_)
 refine Q1 ?_;refine Q7 T.zero33 ?_;intro a4 w3 ha4 hA4 hx3 hs3
 skip
 refine Q1 ?_;refine Q5 T.z33 hA4 ?_;intro w4 hA4 hg4 hs4
 replace hA4:Blk w4.heap a4 33 (Aq.enc R):=hA4
 have hx24:Ext w2 w4:=hx3.own hg4 (fun k hk=>by injection hk;omega)
 have hb4:=hB2.blk.ext hx24
 have hK4:Bk (rt g2 w2 0) w4 0 a4 33 _:=Bk.new hA4 (by omega) (by unfold ixT;decide)
 have hBs4:Ext W0 w4:=(((hB.stp hS1 (by simp;exact fun e=>hb0 e.symm)).stp hS2 h0U).ext).trans hx24
 repeat' (refine R1 ?_)
 refine Zl 1 [] (.node [0,1,2,3,4] (.alt 5 (.leaf [6,7,8,9,10,11]) .stop)) mixed (by decide +kernel) ?_
 repeat' (first|refine R1 ?_|(refine Q1 ?_;first|(refine Q11 T.a33 (hb:=hA4) ?_)|(refine Q2 (hu:=T.f129_3) ?_)|(refine Q3 (hu:=T.p40) ?_))|(refine Zj ?_)|(refine Zp ?_)|(apply Zv)|refine R2 ?_|(exact Zq)|fail)
 all_goals
  refine Q1 ?_
  refine Q12 Aq R T.s31 ?_
  intro p5 w5 hp5 hs5 _ hx5 hz5
  have hwr:=Qm (hL.reps hs5) (fun t ht=>by simp at ht;subst ht;exact ⟨hL.small,fun x hx=>by cases hx⟩) (fun t ht=>by simp at ht;subst ht;exact hL.kind) (by rw [hL.wr];have:=Fj hL;omega) (FD hT ((hBs4.trans (Ext.drew Ext.rfl')).trans hx5))
  rw [hL.wr] at hwr
  have hx45:=(Ext.drew (Ext.rfl' (w:=w4))).trans hx5
  have hb5:=hb4.ext hx45
  repeat' (refine Q1 ?_;(refine Q4 (f:=59) (hc:=hwr) ?_;rintro _ w6 ⟨p6,c6,rfl,hs6,hx6⟩;refine Kc ?_;replace hb5:=hb5.ext (Kx hx6)))
 all_goals
  have hx46:=hx45.trans hx6
  have hB6:=(hB2.ext (hx24.trans hx46) 0)
  have hrow6:Rw (rt g2 w2 0) w6 b 5 Ai none 0 []:=Rw.nil (by unfold ixT;decide)
  repeat' (refine Q1 ?_;first|refine Q21 ?_|(refine Q16 T.s40 hrow6.own hs6 (hB:=Nat.zero_le _) (hlen:=by (have:=Fj hL;simp only [List.length_nil];omega)) (hmax:=by (have:=Fj hL;simp only [List.length_nil];omega)) ?_;intro p7 c7 w7 ha7;have hB7:=hB6.turn ha7.grown (fun e=>by cases e) b;have hb7:=hB7.blk)|(refine Q2 (hu:=T.f129_3) ?_))
  rw [List.nil_append] at ha7
  have hS7:=hrow6.appS (T:=[b]) (ix:=ix) ha7 (by simp)
  have hrow7:=hrow6.app ha7
  refine Q1 ?_;refine Q5 T.z40 hb7 ?_;intro w8 hb8 hg8 hs8
  replace hb8:Blk w8.heap ss 129 [.pointer (some (adr (bx cl) 0)),.pointer (some (adr (bx rd) 0)),.chan (some qc),.slice p7 (Ed R).length c7,.bool false,.bool false]:=hb8
  have hS8:=hB7.stpG (T:=[b]) (ix:=ix) hg8 0 (by simp)
  have hB8:=hB7.turned (u:=0) hb8
  have hrow8:=hrow7.turn hg8 (fun k hk e=>hrow7.neB hB7 (by decide) (by rw [hk];exact e.symm)) 0
  have hx26:=hx24.trans hx46
  have hch7:=(hch2.ext hx26 0).stp (ix:=ix) (T:=[]) (g':=rt (rt g2 w2 0) w6 b) ⟨hS7.os,hS7.tape,hS7.output,hS7.size,fun k hk _ _=>ha7.grown.block k hk (fun e=>by cases e),hS7.tags⟩ (by simp)
  have hch8:=hch7.turn hB7 hg8 0
  have hR8:=((hR2.ext hx26 0).stp hS7 (by simp)).stp hS8 (by simp)
  have hSx:Stq ix (b :: U) g2 (rt g2 w2 0) w2 w6:=Stq.of_ext hx26 0
  have hΨ8:=hst _ _ _ _ _ (hst _ _ _ _ _ (hst _ _ _ _ _ hΨ (Stq.of_ext hx26 0)) (hS7.mono (by simp))) (hS8.mono (by simp))
  repeat' (first|refine R1 ?_|refine R2 ?_|fail)
  refine Kr Tryz.results41 ?_
  exact ⟨rfl,R,_,p7,c7,((((hS1.mono (by simp)).trans (hS2.mono (fun t ht=>List.mem_cons_of_mem _ ht))).trans hSx).trans (hS7.mono (by simp))).trans (hS8.mono (by simp)),⟨hB8,hch8,hrow8,hR8⟩,hΨ8⟩
end Go.Proofs.YtkcolpfanmdmiaaGreatDoor
namespace Go.V
variable {l : List Oper}
variable {d : Option Nat} {g : Option (Nat × Bool)} {u by_ c c2 : Nat} {p : Option Addr}
theorem Q99 {B:Nat} {m:Nat} {k:Nat} {xs:List UInt8} {ys:List UInt8} (hu:Ab P t u 1 by_) (hx:E.look x=some (.slice p m c)) (hy:E.look y=some (.slice q k c2)) (hm:m=ys.length) (hk:k=ys.length) (hown:Go.V.Own w B u Ai p c xs) (hl:xs.length=ys.length) (hne:0<ys.length) (hs:Sl w.heap Ai q c2 ys) (he:Am P dr.1 ⟨d,.call ⟨.builtin .copy,#[x,y],#[t,t']⟩,ty,pos,af,g⟩=true) (hw:writes dr.1 ⟨d,.call ⟨.builtin .copy,#[x,y],#[t,t']⟩,ty,pos,af,g⟩=true) (hd:Ah n d=true) (h:∀w',Go.V.Own w' B u Ai p c ys→w.grownBy w' (blk p)→w'.heap.size=w.heap.size→G P n ops dr l (E.put d (.int .i64 (ys.length:Nat))) w' K):G1 P n ops dr ⟨d,.call ⟨.builtin .copy,#[x,y],#[t,t']⟩,ty,pos,af,g⟩ l E w K:=by
 subst hm hk
 obtain ⟨gb,cur,rfl,hbg,hblk,hcl,hcm,hnc,htake⟩:=hown.toBlk (hown.some_of_pos (by omega))
 have hsz:Ai.sz=1:=rfl
 rw [hsz,Nat.mul_one] at hcl htake
 have hfl:(ys.flatMap Ai.enc).length=ys.length:=by rw [Az,hsz,Nat.mul_one]
 have hmin:min ys.length ys.length=ys.length:=Nat.min_self _
 refine Zz (gb:=gb) (o:=0) (T:=u) (cur:=cur) (ys.flatMap Ai.enc) hu hx hy rfl hblk (fun _=>?_) (by rw [hfl,hmin,Nat.mul_one]) (fun j v hv=>hs.flat j v hv) (by rw [hfl];omega) ?_ (by decide) he hw hd ?_
 ·cases q with
  | none=>have:=hs.ok.nul rfl;have:=hs.ok.le;omega
  | some a =>
   have h1:=hs.ok.spot a rfl (by have:=hs.ok.le;omega)
   obtain ⟨b,o,s⟩:=a
   simp only at h1
   subst h1
   exact ⟨b,o,rfl⟩
 ·intro v hv
  obtain ⟨b,_,hb⟩:=List.mem_flatMap.1 hv
  exact Ai.one b v hb
 ·intro w' hb hg hz
  rw [hmin]
  refine h w' (Own.ofBlk (cur:=cur.take 0++ys.flatMap Ai.enc++cur.drop (0+(ys.flatMap Ai.enc).length)) hbg hb ?_ hcm (by omega) ?_) hg hz
  ·rw [hsz,Nat.mul_one,hfl]
   simp only [List.length_append,List.length_take,List.length_drop,hfl]
   omega
  ·rw [hsz,Nat.mul_one,List.take_zero,List.nil_append,List.take_left' hfl]
end Go.V
namespace Go.Proofs.YtkcolpfanmdmiaaGreatDoor
open Go.V Go.RowKit Go.Conc
theorem Om (_:AV g w b ss cl rd qc po co [] buf):Ctr Tryz.prog 63 [.pointer (some (adr (bx ss) 0)),.int .i64 ((0:Nat):Int)] w (fun v w'=>v=.slice none 0 0∧w=w'):=by
 refine Ac Tryz.func63 Tryz.ntmps63 rfl rfl rfl ?_
 repeat' (first|refine R1 ?_|(refine Q1 ?_;(refine Q15 Tryz.underlying87 (t:=87) ?_))|refine R2 ?_|fail)
 all_goals try (exfalso;omega)
 refine Kr Tryz.results63 ?_
 exact ⟨rfl,rfl⟩
theorem WO:Ag Tryz.prog 5 (.int .u8 0):=Ag.of (by kernel_rfl)
set_option maxRecDepth 20000 in
theorem Qg (hSe:AV g w b ss cl rd qc po co out buf) (hb0:b≠0) (hne:0<out.length) (hlt:out.length≤65536):Ctr Tryz.prog 63 [.pointer (some (adr (bx ss) 0)),.int .i64 (out.length:Int)] w (fun v w'=>∃p c g',v=.slice p out.length c∧Sl w'.heap Ai p c out∧Stq ix [b] g g' w w'∧AV g' w' b ss cl rd qc none 0 [] buf):=by
 have hb:=hSe.box.blk
 have hmin:min (out.length:Int) (out.length:Int)=(out.length:Int):=Int.min_self _
 refine Ac Tryz.func63 Tryz.ntmps63 rfl rfl rfl ?_
 repeat' (first|refine R1 ?_|(refine Q1 ?_;first|(refine Q15 Tryz.underlying87 (t:=87) ?_)|(refine Q2 (hu:=T.f129_3) ?_)|(refine Q3 (hu:=T.p40) ?_)|(refine Q6 (hu:=T.s40) ?_))|refine R2 ?_|(apply Za;exact rfl;all_goals (intro h;try (exfalso;omega)))|fail)
 all_goals try (exfalso;omega)
 refine Q1 ?_
 refine Q113 Ai 0 T.s40 rfl rfl hmin rfl WO rfl rfl rfl (m:=out.length) (h1:=by omega) (h2:=by omega) ?_
 intro p1 w1 hO1 hx1 hz1
 have hB1:=hSe.box.ext hx1 0
 have hb1:=hB1.blk
 have hrow1:=hSe.row.ext hx1 0
 have hR0:Rw (rt g w 0) w1 0 5 Ai p1 out.length (List.replicate out.length 0):=Rw.new hO1 (Nat.le_refl _) (by unfold ixT;decide)
 repeat' (first|refine R1 ?_|(refine Q1 ?_;first|(refine Q99 T.s40 rfl rfl rfl rfl hO1 List.length_replicate hne hrow1.sl rfl rfl rfl ?_;intro w2 hO2 hg2 hz2)|(refine Q2 (hu:=T.f129_3) ?_)|(refine Q3 (hu:=T.p40) ?_))|refine R2 ?_|fail)
 have n1:blk p1≠some ss:=fun e=>by have:=(hO1.ge ss e).1;have:=hSe.box.lt;omega
 have hB2:=hB1.turn hg2 n1 0
 have hrow2:=hrow1.turn hg2 (fun k hk e=>by have:=(hO1.ge k e).1;have:=hSe.row.lt hk;omega) 0
 have hb2:=hB2.blk
 have hS2:=hR0.stpG (T:=[0]) (ix:=ix) hg2 0 (by simp)
 have hR2:=hR0.turned (u:=0) (hO2.base (Nat.zero_le _))
 repeat' (refine Q1 ?_;first|refine Q19 ?_|refine Q21 ?_|(refine Q18 T.s40 hrow2.sl.ok (q:=out.length) (hj:=hmin) (hq:=Nat.le_refl _) ?_)|(refine Q2 (hu:=T.f129_3) ?_)|(refine Q3 (hu:=T.p40) ?_))
 refine Q1 ?_;refine Q5 T.z40 hb2 ?_;intro w3 hb3 hg3 hs3
 replace hb3:Blk w3.heap ss 129 [.pointer (some (adr (bx cl) 0)),.pointer (some (adr (bx rd) 0)),.chan (some qc),.slice (AP po co out.length 1) (out.length - out.length) (co - out.length),.bool false,.bool false]:=hb3
 rw [Nat.sub_self] at hb3
 have hS3:=hB2.stpG (T:=[b]) (ix:=ix) hg3 0 (by simp)
 have hB3:=hB2.turned (u:=0) hb3
 repeat' (first|refine R1 ?_|(refine Q1 ?_;first|(refine Q2 (hu:=T.f129_3) ?_)|(refine Q3 (hu:=T.p40) ?_)|(refine Q6 (hu:=T.s40) ?_))|refine R2 ?_|fail)
 all_goals try (exfalso;omega)
 refine Q1 ?_;refine Q5 T.z40 hb3 ?_;intro w4 hb4 hg4 hs4
 replace hb4:Blk w4.heap ss 129 [.pointer (some (adr (bx cl) 0)),.pointer (some (adr (bx rd) 0)),.chan (some qc),.slice none 0 0,.bool false,.bool false]:=hb4
 have hS4:=hB3.stpG (T:=[b]) (ix:=ix) hg4 0 (by simp)
 have hB4:=hB3.turned (u:=0) hb4
 repeat' (first|refine R1 ?_|refine R2 ?_|fail)
 refine Kr Tryz.results63 ?_
 have hS02:Stq ix [b] g _ w w2:=⟨hS2.os.trans hx1.os,hS2.tape.trans hx1.tape,hS2.output.trans hx1.output,Nat.le_trans hx1.size hS2.size,fun k hk _ _=>(hg2.block k (Nat.lt_of_lt_of_le hk hx1.size) (fun e=>by have:=(hO1.ge k e.symm).1;omega)).trans (hx1.block k hk),fun k hk=>(AY (t:=0) (Nat.lt_of_lt_of_le hk hx1.size)).trans (AY (t:=0) hk)⟩
 have hch1:=(hSe.ch.ext hx1 0)
 have hch2:Cx (rt (rt g w 0) w1 0) w2 b qc 64 buf:=hch1.turnR hR0 hg2 0
 have hch4:=(hch2.turn hB2 hg3 0).turn hB3 hg4 0
 have hrd4:=((hSe.rd.stp hS02 (by simp)).stp hS3 (by simp)).stp hS4 (by simp)
 have hR4:=(hR2.stp hS3 (by simp;exact fun e=>hb0 e.symm)).stp hS4 (by simp;exact fun e=>hb0 e.symm)
 exact ⟨p1,out.length,_,rfl,hR4.sl,(hS02.trans hS3).trans hS4,⟨hB4,hch4,Rw.nil (by unfold ixT;decide),hrd4⟩⟩
theorem Ue:Tryz.prog.info? 61=some (Tryz.prog.types[61]!):=by kernel_rfl
theorem Vt (cl rd qc:Nat) (w:World):(Instr.build 129 [(0,Value.pointer (some (adr (bx cl) 0))),(1,Value.pointer (some (adr (bx rd) 0))),(2,Value.chan (some qc))].toArray).run Tryz.prog w=.ok (.agg #[.pointer (some (adr (bx cl) 0)),.pointer (some (adr (bx rd) 0)),.chan (some qc),.slice none 0 0,.bool false,.bool false]) w:=by kernel_rfl
theorem QO {w:World} {c b t:Nat} {o:Obj} {cs:List Value} (h:w.heap[c]?=some o) (ho:o.isCells=false) (k:Blk w.heap b t cs):c≠b:=BG h k ho
theorem Ol {w w' Wr:World} {m:Nat} (_:Ext w w') (hC:Blk w'.heap cl 190 [.pointer (some (adr (bx m) 0)),.pointer none]) (hR:Ba Wr w' rd (rd+1) none 0 [] 0 none 0 rs0 0) (hS:Blk w'.heap ss 129 [.pointer (some (adr (bx cl) 0)),.pointer (some (adr (bx rd) 0)),.chan (some qc),.slice none 0 0,.bool false,.bool false]) (hQ:w'.heap[qc]?=some (.chan 64 #[] false 0 0 false))
  (h1:w.heap.size≤cl) (h2:w.heap.size≤rd) (h3:w.heap.size≤ss) (h4:w.heap.size≤qc) (_:0<b):∃g',(∀k,k<w.heap.size→g' k=g k)∧AV g' w' b ss cl rd qc none 0 [] #[]∧Bk g' w' (b+4) cl 190 [.pointer (some (adr (bx m) 0)),.pointer none]:=by
 have n1:=BB hC hR.blk (by decide)
 have n2:=BB hS hR.blk (by decide)
 have n3:=BB hS hC (by decide)
 have n4:=QO hQ rfl hR.blk
 have n5:=QO hQ rfl hC
 obtain ⟨g',hg'⟩:∃g':Nat→Nat,g'=fun k=>if k<w.heap.size then g k else if k=rd then b+3 else if k=cl then b+4 else b:=⟨_,rfl⟩
 refine ⟨g',fun k hk=>by rw [hg'];simp only [if_pos hk],⟨⟨hS,?_,by unfold ixT;decide⟩,⟨⟨0,0,hQ⟩,?_⟩,Rw.nil (by unfold ixT;decide),RdA.of hR (fun k hk=>?_)⟩,⟨hC,?_,by unfold ixT;decide⟩⟩
 ·rw [hg'];simp only;rw [if_neg (by omega),if_neg n2,if_neg n3]
 ·rw [hg'];simp only;rw [if_neg (by omega),if_neg n4,if_neg n5]
 ·rcases hk with e|e|e
  ·subst e;rw [hg'];simp only;rw [if_neg (by omega)];simp
  ·cases e
  ·cases e
 ·rw [hg'];simp only;rw [if_neg (by omega),if_neg n1];simp
set_option maxRecDepth 20000 in
theorem Ww {m:Nat} (hb:0<b):Ctr Tryz.prog 39 [.pointer (some (adr (bx m) 0))] w (fun v w'=>∃ss cl rd qc g',v=.tuple #[.pointer (some (adr (bx ss) 0)),.int .i64 0]∧w.heap.size≤rd∧w.heap.size≤ss∧Ext w w'∧(∀k,k<w.heap.size→g' k=g k)∧AV g' w' b ss cl rd qc none 0 [] #[]∧Bk g' w' (b+4) cl 190 [.pointer (some (adr (bx m) 0)),.pointer none]):=by
 refine Ac Tryz.func39 Tryz.ntmps39 rfl rfl rfl ?_
 repeat' (first|refine R1 ?_|(refine Q1 ?_;first|(refine Q4 (f:=54) (hc:=WC) ?_;rintro _ w1 ⟨cl,rfl,hcl,hC1,hx1⟩;refine Kc ?_)|(refine Q4 (f:=55) (hc:=NY) ?_;rintro _ w2 ⟨hx2,rd,rfl,hR2⟩;refine Kc ?_;replace hC1:=hC1.ext (Kx hx2)))|refine R2 ?_|refine Zl 1 [] (.node [0] (.alt 1 (.leaf [2,3,4,5]) (.alt 2 (.leaf [1,3,4,5]) .stop))) mixed (by decide +kernel) ?_|refine BH ?_|refine BN ?_|apply Zv|exact Zq|fail)
 all_goals try (exfalso;omega)
 all_goals
  refine Q1 ?_
  refine Q77 Tryz.underlying127 Ue ?_
  intro w3 hch3 hx3 hz3
  first|replace hC1:=hC1.ext hx3|replace hC1:=hC1.ext ((Ext.drew Ext.rfl').trans hx3)
  repeat' (first|(refine Q1 ?_;first|(refine Q4 (f:=55) (hc:=NY) ?_;rintro _ w2 ⟨hx2,rd,rfl,hR2⟩;refine Kc ?_;replace hC1:=hC1.ext (Kx hx2))|(apply Zi;exact rfl;exact Vt _ _ _;exact rfl))|apply Zu|(refine Zj ?_))
  refine Q1 ?_;refine Q8 ?_;intro a1 w4 ha4 hA4 hx4 hs4
  replace hA4:Blk w4.heap a1 129 [.pointer (some (adr (bx cl) 0)),.pointer (some (adr (bx rd) 0)),.chan (some _),.slice none 0 0,.bool false,.bool false]:=hA4
  repeat' (first|refine R1 ?_|refine R2 ?_|fail)
  refine Kr Tryz.results39 ?_
 ·have hx24:=hx3.trans hx4
  have hx14:Ext w1 w4:=((Ext.drew Ext.rfl').trans hx2).trans hx24
  have z1:=hx1.size
  have z2:=hx2.size
  have zd:w1.drew.heap.size=w1.heap.size:=rfl
  have zr:=hR2.h0
  obtain ⟨g',k1,k2,k3⟩:=Ol (g:=g) (b:=b) (hx1.trans hx14) (hC1.ext hx4) (hR2.xt hx24) hA4 ((hx4.block _ (by omega)).trans hch3) hcl (by omega) (by omega) (by omega) hb
  exact ⟨a1,cl,rd,_,g',rfl,by omega,by omega,hx1.trans hx14,k1,k2,k3⟩
 ·have hx14:Ext w1 w4:=(((Ext.drew Ext.rfl').trans hx3).trans hx2).trans hx4
  have z1:=hx1.size
  have z2:=hx2.size
  have zd:w1.drew.heap.size=w1.heap.size:=rfl
  have zr:=hR2.h0
  obtain ⟨g',k1,k2,k3⟩:=Ol (g:=g) (b:=b) (hx1.trans hx14) (hC1.ext hx4) (hR2.xt hx4) hA4 (((hx2.trans hx4).block _ (by omega)).trans hch3) hcl (by omega) (by omega) (by omega) hb
  exact ⟨a1,cl,rd,_,g',rfl,by omega,by omega,hx1.trans hx14,k1,k2,k3⟩
attribute [local irreducible] PlainT
structure Cn where
 (b ss cl rd qc ln:Nat)
structure Ct (g:Nat→Nat) (w:World) (x:Cn) (n:Nat) (outs:List UInt8) (q:Bool):Prop where
 ex:∃(life:Int) (pi:Option Addr) (ci:Nat) (ins:List UInt8) (po:Option Addr) (co:Nat),Bk g w (x.b+1) x.ln 91 [.pointer (some (adr (bx x.ss) 0)),.int .i64 life,.slice pi ins.length ci,.slice po outs.length co,.bool false,.bool q,.bool false]∧Rw g w (x.b+1) 5 Ai pi ci ins∧Rw g w (x.b+2) 5 Ai po co outs∧ins.length≤n * 1000000∧outs.length≤n * 3000
theorem Ct.stp {ix:Nat} {T:List Nat} {g g':Nat→Nat} {w w':World} {x:Cn} {n:Nat} {outs:List UInt8} {q:Bool} (h:Ct g w x n outs q) (s:Stq ix T g g' w w') (h1:x.b+1 ∉ T) (h2:x.b+2 ∉ T):Ct g' w' x n outs q:=by
 obtain ⟨l,pi,ci,ins,po,co,k1,k2,k3,k4,k5⟩:=h.ex
 exact ⟨l,pi,ci,ins,po,co,k1.stp s h1,k2.stp s h1,k3.stp s h2,k4,k5⟩
theorem Ct.ext {g:Nat→Nat} {w w':World} {x:Cn} {n:Nat} {outs:List UInt8} {q:Bool} (h:Ct g w x n outs q) (hx:Ext w w') (u:Nat):Ct (rt g w u) w' x n outs q:=h.stp (ix:=0) (T:=[]) (Stq.of_ext hx u) (by simp) (by simp)
theorem Ct.up {g:Nat→Nat} {w:World} {x:Cn} {n:Nat} {outs:List UInt8} {q:Bool} (h:Ct g w x n outs q):Ct g w x (n+1) outs q:=by
 obtain ⟨l,pi,ci,ins,po,co,k1,k2,k3,k4,k5⟩:=h.ex
 exact ⟨l,pi,ci,ins,po,co,k1,k2,k3,Nat.le_trans k4 (Nat.mul_le_mul_right _ (Nat.le_succ n)),Nat.le_trans k5 (Nat.mul_le_mul_right _ (Nat.le_succ n))⟩
structure Srv (g:Nat→Nat) (w:World) (sb m kp dk:Nat) (slot log clk:Int) (lasts:List Int) (cs:List Cn) (n:Nat):Prop where
 ex:∃(lf tq:Nat) (lp:Option Addr) (lc:Nat) (cp:Option Addr) (cc:Nat) (buf:Array Value),Bk g w 8 sb 72 [.int .i64 slot,.int .i64 log,.pointer (some (adr (bx dk) 0)),.int .i64 clk,.slice lp lasts.length lc,.slice cp (cs.map (·.ln)).length cc,.pointer (some (adr (bx lf) 0))]∧Rw g w 8 3 He lp lc lasts∧Rw g w 8 75 ePt cp cc (cs.map (·.ln))∧Bk g w 8 lf 82 [.pointer (some (adr (bx m) 0)),.pointer (some (adr (bx kp) 0)),.int .i64 (cs.length:Int),.chan (some tq)]∧Cx g w 8 tq 256 buf∧buf.size≤n
theorem Srv.stp {ix:Nat} {T:List Nat} {g g':Nat→Nat} {w w':World} {sb m kp dk n:Nat} {slot log clk:Int} {lasts:List Int} {cs:List Cn} (h:Srv g w sb m kp dk slot log clk lasts cs n) (s:Stq ix T g g' w w') (h8:8 ∉ T):Srv g' w' sb m kp dk slot log clk lasts cs n:=by
 obtain ⟨lf,tq,lp,lc,cp,cc,buf,k1,k2,k3,k4,k5,k6⟩:=h.ex
 exact ⟨lf,tq,lp,lc,cp,cc,buf,k1.stp s h8,k2.stp s h8,k3.stp s h8,k4.stp s h8,k5.stp s h8,k6⟩
theorem Srv.ext {g:Nat→Nat} {w w':World} {sb m kp dk n:Nat} {slot log clk:Int} {lasts:List Int} {cs:List Cn} (h:Srv g w sb m kp dk slot log clk lasts cs n) (hx:Ext w w') (u:Nat):Srv (rt g w u) w' sb m kp dk slot log clk lasts cs n:=h.stp (ix:=0) (T:=[]) (Stq.of_ext hx u) (by simp)
theorem Srv.up {g:Nat→Nat} {w:World} {sb m kp dk n:Nat} {slot log clk:Int} {lasts:List Int} {cs:List Cn} (h:Srv g w sb m kp dk slot log clk lasts cs n):Srv g w sb m kp dk slot log clk lasts cs (n+1):=by
 obtain ⟨lf,tq,lp,lc,cp,cc,buf,k1,k2,k3,k4,k5,k6⟩:=h.ex
 exact ⟨lf,tq,lp,lc,cp,cc,buf,k1,k2,k3,k4,k5,by omega⟩
theorem T.p80:PlainT Tryz.prog 80:=PlainT.of Tryz.underlying80 rfl
variable {cs : List Cn} {x : Cn} {q : Bool}
set_option maxRecDepth 20000 in
theorem IC (h:Srv g w sb m kp dk slot log clk lasts cs n):Ctr Tryz.prog 14 [.pointer (some (adr (bx sb) 0))] w (fun v w'=>v=.pointer (some (adr (bx m) 0))∧w=w'):=by
 obtain ⟨lf,tq,lp,lc,cp,cc,buf,k1,k2,k3,k4,k5,k6⟩:=h.ex
 have b1:=k1.blk
 have b4:=k4.blk
 refine Ac Tryz.func14 Tryz.ntmps14 rfl rfl rfl ?_
 repeat' (first|refine R1 ?_|(refine Q1 ?_;first|(refine Q15 Tryz.underlying37 (t:=37) ?_)|(refine Q15 Tryz.underlying70 (t:=70) ?_)|(refine Q2 (hu:=by (first|exact T.f72_5|exact T.f82_0)) ?_)|(refine Q3 (hu:=by (first|exact T.p70|exact T.p46)) ?_))|refine R2 ?_|fail)
 all_goals try (exfalso;simp only at *;omega)
 refine Kr Tryz.results14 ?_
 exact ⟨rfl,rfl⟩
set_option maxRecDepth 20000 in
theorem KC (h:Srv g w sb m kp dk slot log clk lasts cs n) (hi:cs[i]?=some x) (hn:cs.length≤256) (hL:Ct g w x n outs q):Ctr Tryz.prog 25 [.pointer (some (adr (bx sb) 0)),.int .i64 (i:Int)] w (fun v w'=>v=.pointer (some (adr (bx x.ln) 0))∧Ext w w'):=by
 obtain ⟨lf,tq,lp,lc,cp,cc,buf,k1,k2,k3,k4,k5,k6⟩:=h.ex
 have b1:=k1.blk
 obtain ⟨life,pi,ci,ins,po,co,l1,-⟩:=hL.ex
 have bl:=l1.blk
 have hs:=k3.sl
 have hlt:i<cs.length:=(List.getElem?_eq_some_iff.1 hi).1
 have hi':(cs.map (·.ln))[i]?=some x.ln:=by rw [List.getElem?_map,hi];rfl
 have hz:((cs.map (·.ln)).length:Int)≠0:=by rw [List.length_map];omega
 have hlen:(cs.map (·.ln)).length=cs.length:=List.length_map _
 have e1:(i:Int).tmod ((cs.map (·.ln)).length:Int)=(i:Int):=by rw [hlen];exact Int.tmod_eq_of_lt (by omega) (by omega)
 have e2:((i:Int)+((cs.map (·.ln)).length:Int)).tmod ((cs.map (·.ln)).length:Int)=(i:Int):=by rw [hlen,Int.tmod_eq_emod_of_nonneg (by omega),Int.add_emod_right];exact Int.emod_eq_of_lt (by omega) (by omega)
 have e3:((i:Int).tmod ((cs.map (·.ln)).length:Int)+((cs.map (·.ln)).length:Int)).tmod ((cs.map (·.ln)).length:Int)=(i:Int):=by rw [e1];exact e2
 have hlt':i<(cs.map (·.ln)).length:=by omega
 refine Ac Tryz.func25 Tryz.ntmps25 rfl rfl rfl ?_
 repeat' (first|refine R1 ?_|(refine Q1 ?_;first|(refine Q10 T.s69 hs.ok (q:=i) (hj:=e3) (h1:=hlt') ?_)|(refine Q9 (q:=i) (e:=ePt) (hu:=T.p75) (hs:=hs) (hq:=hi') ?_)|(refine Q2 (hu:=by (first|exact T.f72_4|exact T.f91_3)) ?_)|(refine Q3 (hu:=by (first|exact T.p69|exact T.p4)) ?_)|(refine Q6 (hu:=T.s69) ?_))|refine R2 ?_|(apply Za;exact rfl;all_goals (intro h;try (exfalso;omega)))|refine Zf 1 [] [0,1,2,3,4,5,6,7,8,9,10,11,12,13] mixed (by decide +kernel) ?_|fail)
 all_goals try (exfalso;simp only at *;omega)
 refine Kr Tryz.results25 ?_
 exact ⟨rfl,Ext.drew Ext.rfl'⟩
theorem Wx (hSe:AV g w b ss cl rd qc po co out buf) (hb0:b≠0) (hn:out=[]→po=none∧co=0) (hlt:out.length≤65536):Ctr Tryz.prog 63 [.pointer (some (adr (bx ss) 0)),.int .i64 (out.length:Int)] w (fun v w'=>∃p c g',v=.slice p out.length c∧Sl w'.heap Ai p c out∧Stq ix [b] g g' w w'∧AV g' w' b ss cl rd qc none 0 [] buf):=by
 by_cases h:out=[]
 ·obtain ⟨rfl,rfl⟩:=hn h
  subst h
  refine (Om hSe).mono ?_
  rintro v w' ⟨rfl,rfl⟩
  exact ⟨none,0,g,rfl,hSe.row.sl,Stq.rfl',hSe⟩
 ·exact Qg hSe hb0 (List.length_pos_iff.2 h) hlt
theorem WP:Ag Tryz.prog 75 (.pointer none):=Ag.of (by kernel_rfl)
set_option maxRecDepth 20000 in
theorem Ga (h:Srv g w sb m kp dk slot log clk lasts cs n) (hL:Ct g w x n outs q) (hSe:AV g w x.b x.ss x.cl x.rd x.qc po co out buf) (h8:8<x.b) (hnil:out=[]→po=none∧co=0) (hlt:out.length≤3000) (hn:n≤200) :
  Ctr Tryz.prog 43 [.pointer (some (adr (bx sb) 0)),.pointer (some (adr (bx x.ln) 0))] w (fun _ w'=>∃g' q',Stq ix [8,x.b,x.b+1,x.b+2] g g' w w'∧Srv g' w' sb m kp dk slot log clk lasts cs (n+1)∧Ct g' w' x (n+1) (outs++out) q'∧AV g' w' x.b x.ss x.cl x.rd x.qc none 0 [] buf):=by
 obtain ⟨life,pi,ci,ins,pq,cq,l1,l2,l3,l4,l5⟩:=hL.ex
 have bl:=l1.blk
 refine Ac Tryz.func43 Tryz.ntmps43 rfl rfl rfl ?_
 repeat' (first|refine R1 ?_|(refine Q1 ?_;first|(refine Q4 (f:=62) (hc:=Oo hSe) ?_;rintro _ w1 ⟨rfl,hx1⟩;refine Kc ?_)|(refine Q2 (hu:=T.f91_0) ?_)|(refine Q3 (hu:=T.p87) ?_))|refine R2 ?_|fail)
 have hx1:=hx1.trans (Ext.drew Ext.rfl')
 have l1:=l1.ext hx1 0
 have l2:=l2.ext hx1 0
 have l3:=l3.ext hx1 0
 have hSe:=hSe.ext hx1 0
 have h:=h.ext hx1 0
 have bl1:=l1.blk
 refine Zl 2 [] (.node [0,1,2,3,4,6,7,8,10] (.alt 5 (.node [] (.alt 9 (.leaf [11,12,13,14,15,16]) .stop)) (.alt 9 (.node [] (.alt 5 (.leaf [11,12,13,14,15,16]) (.alt 11 (.leaf [5,12,13,14,15,16]) .stop))) .stop))) mixed (by decide +kernel) ?_
 repeat' (first|refine R1 ?_|(refine Q1 ?_;first|(refine Q2 (hu:=by (first|exact T.f91_0|exact T.f91_1|exact T.f89_2)) ?_)|(refine Q3 (hu:=by (first|exact T.p87|exact T.p40)) ?_))|(refine Zj ?_)|(refine Zp ?_)|(apply Zv)|refine R2 ?_|(exact Zq)|fail)
 all_goals
  refine Q1 ?_;refine Q4 (hc:=Wx (ix:=ix) hSe (by omega) hnil (by omega)) ?_;rintro _ w2 ⟨p2,c2,g2,rfl,hs2,hS2,hSe2⟩;refine Kc ?_
  have l1:=l1.stp hS2 (by simp)
  have l2:=l2.stp hS2 (by simp)
  have l3:=l3.stp hS2 (by simp)
  have h:=h.stp hS2 (by simp;omega)
  have bl2:=l1.blk
  have o3:=l3.own
  have hl0:n * 3000≤200 * 3000:=Nat.mul_le_mul_right _ hn
  repeat' (first|(refine Q1 ?_;first|(refine Q16 T.s40 o3 hs2 (hB:=Nat.zero_le _) (hlen:=by (omega)) (hmax:=by (omega)) ?_;intro p3 c3 w3 ha3)|(refine Q2 (hu:=by (first|exact T.f91_1|exact T.f89_2)) ?_)|(refine Q3 (hu:=T.p40) ?_))|refine R1 ?_|(refine Zj ?_)|refine R2 ?_|fail)
  have hS3:=l3.appS (T:=[x.b+2]) (ix:=ix) ha3 (by simp)
  have r3:=l3.app ha3
  have l1:=l1.stp hS3 (by simp)
  have l2:=l2.stp hS3 (by simp)
  have h:=h.stp hS3 (by simp;omega)
  have hSe2:=hSe2.stp hS3 (by simp) (by simp)
  have bl3:=l1.blk
  skip
  refine Q1 ?_;refine Q5 T.z40 bl3 ?_;intro w4 hb4 hg4 hs4
  replace hb4:Blk w4.heap x.ln 91 [.pointer (some (adr (bx x.ss) 0)),.int .i64 life,.slice pi ins.length ci,.slice p3 (outs++out).length c3,.bool false,.bool q,.bool false]:=hb4
  have hS4:=l1.stpG (T:=[x.b+1]) (ix:=ix) hg4 0 (by simp)
  have l2:=l2.turn hg4 (fun k hk e=>l2.neB l1 (by decide) (by rw [hk];exact e.symm)) 0
  have r3:=r3.stp hS4 (by simp)
  have h:=h.stp hS4 (by simp;omega)
  have hSe2:=hSe2.stp hS4 (by simp) (by simp)
  have l1:=l1.turned (u:=0) hb4
  have bl4:=l1.blk
  have hSS:Stq ix [8,x.b,x.b+1,x.b+2] g _ w w4:=(((Stq.of_ext hx1 0).trans (hS2.mono (by simp))).trans (hS3.mono (by simp))).trans (hS4.mono (by simp))
  have hlen:(outs++out).length≤(n+1) * 3000:=by rw [List.length_append,Nat.succ_mul];omega
  have hin:ins.length≤(n+1) * 1000000:=Nat.le_trans l4 (Nat.mul_le_mul_right _ (Nat.le_succ n))
  have hVu:=h.up
  obtain ⟨lf,tq,lp,lc,cp,cc,bf,k1,k2,k3,k4,k5,k6⟩:=h.ex
  have bb1:=k1.blk
  have bb4:=k4.blk
  obtain ⟨s,r,hch⟩:=k5.ex
  repeat' (first|(refine ZV 0 rfl rfl ?_)|refine R1 ?_|(refine Q1 ?_;first|(refine Q4 (f:=57) (hc:=HY hSe2 (by simp)) ?_;rintro _ _ ⟨rfl,rfl⟩;refine Kc ?_)|(refine Q3 (t:=80) (hu:=T.p80) (hb:=bb4) ?_)|(refine Q2 (hu:=by (first|exact T.f91_0|exact T.f91_2|exact T.f72_5|exact T.f82_3)) ?_)|(refine Q3 (hu:=by (first|exact T.p87|exact T.p4|exact T.p70)) ?_))|refine R2 ?_|(apply Za;exact rfl;all_goals (intro h;try (exfalso;omega)))|((fail_if_success (refine Q1 ?_));apply ZW;exact rfl;exact rfl;all_goals intro h)|fail)
 all_goals try (refine Ze Tryz.results43 (vs:=[]) rfl ?_;exact ⟨_,_,hSS,hVu,⟨life,pi,ci,ins,p3,c3,l1,l2,r3,hin,hlen⟩,hSe2⟩)
 all_goals
  refine ⟨_,_,Ik.send rfl rfl hch (by omega) WP,?_⟩
  have hS5:=k5.stpG (T:=[8]) (ix:=ix) (buf':=bf.push (.pointer (some (adr (bx x.ln) 0)))) (s+1) r 0 (by simp)
  have hg5:=Cx.gr (w:=w4) (c:=tq) (cap:=256) (buf:=bf.push (.pointer (some (adr (bx x.ln) 0)))) (s:=s+1) (r:=r)
  have k1:=k1.turn hg5 (fun e=>k5.neB k1 (by injection e)) 0
  have k2:=k2.turn hg5 (k5.neR k2) 0
  have k3:=k3.turn hg5 (k5.neR k3) 0
  have k4:=k4.turn hg5 (fun e=>k5.neB k4 (by injection e)) 0
  have k5:=k5.set (buf':=bf.push (.pointer (some (adr (bx x.ln) 0)))) (s+1) r 0
  have l1:=l1.stp hS5 (by simp;omega)
  have l2:=l2.stp hS5 (by simp;omega)
  have r3:=r3.stp hS5 (by simp;omega)
  have hSe2:=hSe2.stp hS5 (by simp;omega) (by simp;omega)
  have bl5:=l1.blk
  repeat' (first|refine R1 ?_|(refine Q1 ?_;(refine Q2 (hu:=T.f91_2) ?_))|refine R2 ?_|fail)
  refine Q1 ?_;refine Q5 T.z4 bl5 ?_;intro w6 hb6 hg6 hs6
  replace hb6:Blk w6.heap x.ln 91 [.pointer (some (adr (bx x.ss) 0)),.int .i64 life,.slice pi ins.length ci,.slice p3 (outs++out).length c3,.bool false,.bool true,.bool false]:=hb6
  have hS6:=l1.stpG (T:=[x.b+1]) (ix:=ix) hg6 0 (by simp)
  have l2:=l2.turn hg6 (fun k hk e=>l2.neB l1 (by decide) (by rw [hk];exact e.symm)) 0
  have r3:=r3.stp hS6 (by simp)
  have hSe2:=hSe2.stp hS6 (by simp) (by simp)
  have k1:=k1.stp hS6 (by simp;omega)
  have k2:=k2.stp hS6 (by simp;omega)
  have k3:=k3.stp hS6 (by simp;omega)
  have k4:=k4.stp hS6 (by simp;omega)
  have k5:=k5.stp hS6 (by simp;omega)
  have l1:=l1.turned (u:=0) hb6
  repeat' (first|refine R1 ?_|refine R2 ?_|fail)
  refine Zk Tryz.results43 (vs:=[]) rfl ?_
  exact ⟨_,_,(hSS.trans (hS5.mono (by simp))).trans (hS6.mono (by simp)),⟨lf,tq,lp,lc,cp,cc,_,k1,k2,k3,k4,k5,by rw [Array.size_push];omega⟩,⟨life,pi,ci,ins,p3,c3,l1,l2,r3,hin,hlen⟩,hSe2⟩
structure DeedR where
 (kind conn num:Int) (bp:Option Addr) (bn bc:Nat)
def Cr:Enc DeedR:=⟨5,fun d=>[.int .i64 d.kind,.int .i64 d.conn,.int .i64 d.num,.slice d.bp d.bn d.bc,.slice none 0 0],fun _=>rfl,fun _ v hv=>by simp at hv;rcases hv with rfl|rfl|rfl|rfl|rfl <;> rfl,by decide⟩
theorem Wq {R:Bg}:Ed R≠[]:=by
 rw [MV]
 unfold BC
 repeat' split
 all_goals simp
variable {num : Int}
set_option maxRecDepth 20000 in
theorem Oi (h:Srv g w sb m kp dk slot log clk lasts cs n) (hL:Ct g w x n outs q) (hSe:AV g w x.b x.ss x.cl x.rd x.qc none 0 [] #[]) (h8:8<x.b) (hn:n≤199) :
  Ctr Tryz.prog 26 [.pointer (some (adr (bx sb) 0)),.pointer (some (adr (bx x.ln) 0)),.agg (Cr.enc ⟨2,cn,num,none,0,0⟩).toArray] w (fun v w'=>v=.int .i64 0∧∃g' q',Stq ix [8,x.b,x.b+1,x.b+2] g g' w w'∧Srv g' w' sb m kp dk slot log clk lasts cs (n+1)∧Ct g' w' x (n+1) outs q'∧AV g' w' x.b x.ss x.cl x.rd x.qc none 0 [] #[]):=by
 refine Ac Tryz.func26 Tryz.ntmps26 rfl rfl rfl ?_
 repeat' (refine R1 ?_)
 refine Q1 ?_;refine Q8 ?_;intro a5 w1 ha5 hA5 hx1 hs1
 replace hA5:Blk w1.heap a5 43 [.int .i64 2,.int .i64 cn,.int .i64 num,.slice none 0 0,.slice none 0 0]:=hA5
 have h1:=h.ext hx1 0
 have hL1:=hL.ext hx1 0
 have hSe1:=hSe.ext hx1 0
 obtain ⟨life,pi,ci,ins,pq,cq,l1,-⟩:=hL1.ex
 have bl:=l1.blk
 repeat' (first|refine R1 ?_|(refine Q1 ?_;first|(refine Q4 (f:=41) (hc:=SF hSe1) ?_;rintro _ _ ⟨rfl,rfl⟩;refine Kc ?_)|(refine Q2 (hu:=by (first|exact T.f43_0|exact T.f91_0)) ?_)|(refine Q3 (hu:=by (first|exact T.p3|exact T.p87)) ?_))|refine R2 ?_|fail)
 all_goals try (exfalso;simp only at *;omega)
 refine Q1 ?_;refine Q4 (hc:=Ga (ix:=ix) h1 hL1 hSe1 h8 (fun _=>⟨rfl,rfl⟩) (by simp) (by omega)) ?_;rintro _ w2 ⟨g2,q2,hS2,h2,hL2,hSe2⟩;refine Kc ?_
 rw [List.append_nil] at hL2
 repeat' (first|refine R1 ?_|refine R2 ?_|fail)
 refine Kr Tryz.results26 ?_
 exact ⟨rfl,g2,q2,(Stq.of_ext hx1 0).trans hS2,h2,hL2,hSe2⟩
set_option maxRecDepth 20000 in
theorem Oj (hB:Bs W0 ix g w) (hT:Pow W0) (h:Srv g w sb m kp dk slot log clk lasts cs n) (hL:Ct g w x n outs q) (hSe:AV g w x.b x.ss x.cl x.rd x.qc none 0 [] #[.slice q2 l.length d2]) (h8:8<x.b) (hn:n≤199) (hU:∀t∈U,0<t∧(t<8∨x.b+3<t))
  (hst:∀R g1 w1 g2 w2,Ψ R g1 w1→Stq ix [0,8,x.b,x.b+1,x.b+2,x.b+3] g1 g2 w1 w2→Ψ R g2 w2) (hLf:∀R g1 w1,Ψ R g1 w1→Lf R)
  (hDo:∀g1 w1,Stq ix [x.b] g g1 w w1→Ctr Tryz.prog 58 [.pointer (some (adr (bx x.cl) 0)),.slice q2 l.length d2] w1 (fun v w'=>∃R,v=.tuple #[.agg (Aq.enc R).toArray,.bool false]∧∃g',Stq ix U g1 g' w1 w'∧Ψ R g' w')) :
  Ctr Tryz.prog 26 [.pointer (some (adr (bx sb) 0)),.pointer (some (adr (bx x.ln) 0)),.agg (Cr.enc ⟨2,cn,num,none,0,0⟩).toArray] w (fun v w'=>v=.int .i64 1∧∃R g' q',Stq ix (8 :: x.b :: (x.b+1) :: (x.b+2) :: U) g g' w w'∧Srv g' w' sb m kp dk slot log clk lasts cs (n+1)∧Ct g' w' x (n+1) (outs++Ed R) q'∧AV g' w' x.b x.ss x.cl x.rd x.qc none 0 [] #[]∧Ψ R g' w'):=by
 have u0:0 ∉ U:=fun e=>by have:=hU _ e;omega
 have u8:8 ∉ U:=fun e=>by have:=hU _ e;omega
 have ub:x.b ∉ U:=fun e=>by have:=hU _ e;omega
 have ub1:x.b+1 ∉ U:=fun e=>by have:=hU _ e;omega
 have ub2:x.b+2 ∉ U:=fun e=>by have:=hU _ e;omega
 have ub3:x.b+3 ∉ U:=fun e=>by have:=hU _ e;omega
 refine Ac Tryz.func26 Tryz.ntmps26 rfl rfl rfl ?_
 repeat' (refine R1 ?_)
 refine Q1 ?_;refine Q8 ?_;intro a5 w1 ha5 hA5 hx1 hs1
 replace hA5:Blk w1.heap a5 43 [.int .i64 2,.int .i64 cn,.int .i64 num,.slice none 0 0,.slice none 0 0]:=hA5
 have h1:=h.ext hx1 0
 have hL1:=hL.ext hx1 0
 have hSe1:=hSe.ext hx1 0
 have hB1:Bs W0 ix (rt g w 0) w1:=hB.stp (T:=[]) (Stq.of_ext hx1 0) (by simp)
 obtain ⟨life,pi,ci,ins,pq,cq,l1,-⟩:=hL1.ex
 have bl:=l1.blk
 repeat' (first|refine R1 ?_|(refine Q1 ?_;first|(refine Q2 (hu:=by (first|exact T.f43_0|exact T.f91_0)) ?_)|(refine Q3 (hu:=by (first|exact T.p3|exact T.p87)) ?_))|refine R2 ?_|fail)
 all_goals try (exfalso;simp only at *;omega)
 refine Q1 ?_;refine Q4 (hc:=UJ hB1 hT hSe1 u0 ub ub3 (by omega) (fun R g1 w1 g2 w2 hp hs=>hst R g1 w1 g2 w2 hp (hs.mono (by simp))) hLf (fun g1 w1' hs=>hDo g1 w1' ((Stq.of_ext hx1 0).trans hs))) ?_;rintro _ w2 ⟨rfl,R,g2,po,co,hS2,hSe2,hΨ⟩;refine Kc ?_
 have h2:=h1.stp hS2 (by simp;exact ⟨by omega,u8⟩)
 have hL2:=hL1.stp hS2 (by simp;exact ub1) (by simp;exact ub2)
 have hlen:=Fj (hLf _ _ _ hΨ)
 have hpos:=Wq (R:=R)
 repeat' (first|refine R1 ?_|refine R2 ?_|fail)
 all_goals try (exfalso;simp only at *;omega)
 refine Q1 ?_;refine Q4 (hc:=Ga (ix:=ix) h2 hL2 hSe2 h8 (fun e=>absurd e hpos) hlen (by omega)) ?_;rintro _ w3 ⟨g3,q3,hS3,h3,hL3,hSe3⟩;refine Kc ?_
 repeat' (first|refine R1 ?_|refine R2 ?_|fail)
 refine Kr Tryz.results26 ?_
 exact ⟨rfl,R,g3,q3,((Stq.of_ext hx1 0).trans (hS2.mono (fun t ht=>by simp at ht ⊢;rcases ht with e|e <;> simp [e]))).trans (hS3.mono (fun t ht=>by simp at ht ⊢;rcases ht with e|e|e|e <;> simp [e])),h3,hL3,hSe3,hst _ _ _ _ _ hΨ (hS3.mono (fun t ht=>by simp at ht ⊢;rcases ht with e|e|e|e <;> simp [e]))⟩
set_option maxRecDepth 20000 in
theorem Qf (hB:Bs W0 ix g w) (hT:Pow W0) (hE:CL W0) (h:Srv g w sb m kp dk slot log clk lasts cs n) (hL:Ct g w x n outs q) (hSe:AV g w x.b x.ss x.cl x.rd x.qc none 0 [] #[]) (h8:8<x.b) (hrd:W0.heap.size≤x.rd) (hn:n≤199) (hb:SlT g w 0 Ai q1 d1 (prB l)) (hl:FE l) :
  Ctr Tryz.prog 26 [.pointer (some (adr (bx sb) 0)),.pointer (some (adr (bx x.ln) 0)),.agg (Cr.enc ⟨1,cn,num,q1,(prB l).length,d1⟩).toArray] w (fun v w'=>v=.int .i64 0∧∃g' q' q2 d2,Stq ix [8,x.b,x.b+1,x.b+2,x.b+3] g g' w w'∧Srv g' w' sb m kp dk slot log clk lasts cs (n+2)∧Ct g' w' x (n+2) outs q'∧AV g' w' x.b x.ss x.cl x.rd x.qc none 0 [] #[.slice q2 l.length d2]∧SlT g' w' (x.b+3) Ar q2 d2 l):=by
 have hlen:(prB l).length≤1000000:=by
  have:=PT (l:=l) (by have:=hl.len;omega) (fun x hx=>by have:=hl.words x hx;omega)
  have:=hl.len
  omega
 refine Ac Tryz.func26 Tryz.ntmps26 rfl rfl rfl ?_
 repeat' (refine R1 ?_)
 refine Q1 ?_;refine Q8 ?_;intro a5 w1 ha5 hA5 hx1 hs1
 replace hA5:Blk w1.heap a5 43 [.int .i64 1,.int .i64 cn,.int .i64 num,.slice q1 (prB l).length d1,.slice none 0 0]:=hA5
 have hx1d:=hx1.trans (Ext.drew Ext.rfl')
 have h1:=h.ext hx1d 0
 have hL1:=hL.ext hx1d 0
 have hSe1:=hSe.ext hx1d 0
 have hb1:=hb.ext hx1d 0
 have hA1:=hA5.ext (Ext.drew Ext.rfl')
 have hAk:Bk (rt g w 0) w1.drew 0 a5 43 [.int .i64 1,.int .i64 cn,.int .i64 num,.slice q1 (prB l).length d1,.slice none 0 0]:=Bk.new hA1 (by omega) (by unfold ixT;decide)
 obtain ⟨life,pi,ci,ins,pq,cq,l1,l2,l3,l4,l5⟩:=hL1.ex
 have bl:=l1.blk
 repeat' (first|refine R1 ?_|(refine Q1 ?_;first|(refine Q2 (hu:=T.f43_0) ?_)|(refine Q3 (hu:=T.p3) ?_))|refine R2 ?_|fail)
 all_goals try (exfalso;simp only at *;omega)
 refine Zl 2 [] (.node [0,1,2,3,4] (.alt 5 (.leaf [6,7,8]) .stop)) mixed (by decide +kernel) ?_
 repeat' (first|refine R1 ?_|(refine Q1 ?_;first|(refine Q2 (hu:=by (first|exact T.f91_0|exact T.f43_3)) ?_)|(refine Q3 (hu:=by (first|exact T.p87|exact T.p40)) ?_))|(refine Zj ?_)|(refine Zp ?_)|(apply Zv)|refine R2 ?_|(exact Zq)|fail)
 all_goals
  refine Q1 ?_
  refine Q12 Eu (q1,(prB l).length,d1) T.s145 ?_
  intro p2 w2 hp2 hs2 hb2 hx2 hz2
  have hQ2:SlT (rt (rt g w 0) w1.drew 0) w2 0 Eu p2 1 [(q1,(prB l).length,d1)]:=⟨hs2,fun a ha=>by
   rw [hp2] at ha
   injection ha with ha
   subst ha
   exact ⟨hb2.lt,CU (Nat.le_refl _),(Blk.noB hb2 (by unfold ixT;decide)).not⟩⟩
  have hV2:=h1.ext hx2 0
  have hL2:=hL1.ext hx2 0
  have hSe2:=hSe1.ext hx2 0
  have hB2:=(hB.stp (T:=[]) (Stq.of_ext hx1d 0) (by simp)).stp (T:=[]) (Stq.of_ext hx2 0) (by simp)
  have hbb2:=hb1.ext hx2 0
  have l1:=l1.ext hx2 0
  have hA2:=hAk.ext hx2 0
  skip
  refine Q1 ?_;refine Q4 (hc:=SE (ix:=ix) hSe2 (by omega) hB2.ext hrd hQ2 hbb2 hl hT hE) ?_;rintro _ w3 ⟨rfl,g3,q2,d2,hS3,hSe3,hW3⟩;refine Kc ?_
  have hV3:=hV2.stp hS3 (by simp;omega)
  have l1:=l1.stp hS3 (by simp)
  have l2:=(l2.ext hx2 0).stp hS3 (by simp)
  have l3:=(l3.ext hx2 0).stp hS3 (by simp)
  have hb3:=hbb2.stp hS3 (by simp;omega)
  have hA3:=hA2.stp hS3 (by simp;omega)
  repeat' (first|refine R1 ?_|refine R2 ?_|fail)
  have hd:=Ext.drew (Ext.rfl' (w:=w3))
  have hV3:=hV3.ext hd 0
  have l1:=l1.ext hd 0
  have l2:=l2.ext hd 0
  have l3:=l3.ext hd 0
  have hb3:=hb3.ext hd 0
  have hA3:=hA3.ext hd 0
  have hSe3:=hSe3.ext hd 0
  have hW3:=hW3.ext hd 0
  have bl3:=l1.blk
  have bA3:=hA3.blk
  have o3:=l2.own
  have s3:=hb3.sl
  have hin0:n * 1000000≤199 * 1000000:=Nat.mul_le_mul_right _ hn
  have hin1:(n+1) * 1000000=n * 1000000+1000000:=Nat.succ_mul _ _
  refine Zl 1 [] (.leaf [0,1,2,3,4,5,6,7,8,9,10,11,12]) mixed (by decide +kernel) ?_
  repeat' (first|refine R1 ?_|(refine Q1 ?_;first|(refine Q16 T.s40 o3 s3 (hB:=Nat.zero_le _) (hlen:=by (omega)) (hmax:=by (omega)) ?_;intro p4 c4 w4 ha4)|(refine Q2 (hu:=by (first|exact T.f43_3|exact T.f91_1|exact T.f89_1)) ?_)|(refine Q3 (hu:=T.p40) ?_))|(refine Zj ?_)|refine R2 ?_|fail)
  have hS4:=l2.appS (T:=[x.b+1]) (ix:=ix) ha4 (by simp)
  have r4:=l2.app ha4
  have l1:=l1.turn ha4.grown (l2.neB l1 (by decide)) (x.b+1)
  have l3:=l3.stp hS4 (by simp)
  have hV4:=hV3.stp hS4 (by simp;omega)
  have hSe4:=hSe3.stp hS4 (by simp) (by simp)
  have hW4:=hW3.stp hS4 (by simp)
  have bl4:=l1.blk
  refine Q1 ?_;refine Q5 T.z40 bl4 ?_;intro w5 hb5 hg5 hs5
  replace hb5:Blk w5.heap x.ln 91 [.pointer (some (adr (bx x.ss) 0)),.int .i64 life,.slice p4 (ins++prB l).length c4,.slice pq outs.length cq,.bool false,.bool q,.bool false]:=hb5
  have hS5:=l1.stpG (T:=[x.b+1]) (ix:=ix) hg5 0 (by simp)
  have r5:=r4.turn hg5 (fun k hk e=>r4.neB l1 (by decide) (by rw [hk];exact e.symm)) 0
  have l3:=l3.stp hS5 (by simp)
  have hV5:=hV4.stp hS5 (by simp;omega)
  have hSe5:=hSe4.stp hS5 (by simp) (by simp)
  have hW5:=hW4.stp hS5 (by simp)
  have l1:=l1.turned (u:=0) hb5
  have hin:(ins++prB l).length≤(n+1) * 1000000:=by rw [List.length_append,hin1];omega
  have hLn:Ct _ w5 x (n+1) outs q:=⟨life,p4,c4,_,pq,cq,l1,r5,l3,hin,Nat.le_trans l5 (Nat.mul_le_mul_right _ (Nat.le_succ n))⟩
  repeat' (first|refine R1 ?_|refine R2 ?_|fail)
  refine Q1 ?_;refine Q4 (hc:=Ga (ix:=ix) hV5.up hLn hSe5 h8 (fun _=>⟨rfl,rfl⟩) (by simp) (by omega)) ?_;rintro _ w6 ⟨g6,q6,hS6,hV6,hL6,hSe6⟩;refine Kc ?_
  rw [List.append_nil] at hL6
  repeat' (first|refine R1 ?_|refine R2 ?_|fail)
  refine Kr Tryz.results26 ?_
  have hX1:Stq ix [8,x.b,x.b+1,x.b+2,x.b+3] g _ w w2:=(Stq.of_ext hx1d 0).trans (Stq.of_ext hx2 0)
  have hX2:=((hX1.trans (hS3.mono (by simp))).trans (Stq.of_ext hd 0)).trans (hS4.mono (by simp))
  exact ⟨rfl,g6,q6,q2,d2,(hX2.trans (hS5.mono (by simp))).trans (hS6.mono (by simp)),hV6,hL6,hSe6,hW5.stp hS6 (by simp;omega)⟩
set_option maxRecDepth 20000 in
theorem TU (hV:Srv g w sb m kp dk slot log clk lasts cs n) (hi:cs[i]?=some x) (hcs:cs.length≤256) (hL:Ct g w x n outs q) (hSe:AV g w x.b x.ss x.cl x.rd x.qc none 0 [] #[]) (h8:8<x.b) (hn:n≤199) (hD:Sl w.heap Cr dp dc [⟨2,i,num,none,0,0⟩]) :
  Ctr Tryz.prog 12 [.pointer (some (adr (bx sb) 0)),.slice dp 1 dc] w (fun v w'=>v=.int .i64 0∧∃g' q',Stq ix [8,x.b,x.b+1,x.b+2] g g' w w'∧Srv g' w' sb m kp dk slot log clk lasts cs (n+1)∧Ct g' w' x (n+1) outs q'∧AV g' w' x.b x.ss x.cl x.rd x.qc none 0 [] #[]):=by
 obtain ⟨lf,tq,lp,lc,cp,cc,bf,k1,k2,k3,k4,k5,k6⟩:=hV.ex
 have bb1:=k1.blk
 refine Ac Tryz.func12 Tryz.ntmps12 rfl rfl rfl ?_
 repeat' (first|refine R1 ?_|(refine Q1 ?_;first|(refine Q15 Tryz.underlying37 (t:=37) ?_)|(refine Q15 Tryz.underlying68 (t:=68) ?_)|(refine Q2 (hu:=T.f72_1) ?_)|(refine Q3 (hu:=T.p68) ?_)|(refine Q6 (hu:=T.s67) ?_))|apply ZF|apply ZK|refine R2 ?_|fail)
 all_goals try (exfalso;simp only at *;omega)
 refine Zm ?_
 repeat' (first|(refine Q1 ?_;first|(refine Q10 T.s67 hD.ok (q:=0) (hj:=rfl) (h1:=by (simp)) ?_)|(refine Q14 T.a43 (q:=0) (e:=Cr) (hs:=hD) (hq:=rfl) ?_))|refine R1 ?_|refine R2 ?_|fail)
 all_goals try (exfalso;simp only at *;omega)
 refine Q1 ?_;refine Q7 T.zero43 ?_;intro a7 w1 ha7 hA7 hx1 hs1
 have bb2:=bb1.ext hx1
 skip
 refine Q1 ?_;refine Q5 T.z43 hA7 ?_;intro w2 hA7 hg2 hs2
 have hx2:Ext w w2:=hx1.own hg2 (fun k hk=>by injection hk;omega)
 replace bb2:=bb1.ext hx2
 have hS2:Stq ix [8,x.b,x.b+1,x.b+2,x.b+3] g (rt g w 0) w w2:=Stq.of_ext hx2 0
 have hV2:=hV.ext hx2 0
 replace hA7:Blk w2.heap a7 43 [.int .i64 2,.int .i64 (i:Int),.int .i64 num,.slice none 0 0,.slice none 0 0]:=hA7
 have hL2:=hL.ext hx2 0
 have hSe2:=hSe.ext hx2 0
 repeat' (first|refine R1 ?_|(refine Q1 ?_;first|(refine Q4 (f:=25) (hc:=KC hV2 hi hcs hL2) ?_;rintro _ w3 ⟨rfl,hx3⟩;refine Kc ?_;replace hA7:=hA7.ext (Kx hx3))|(refine Q15 Tryz.underlying70 (t:=70) ?_)|(refine Q49 Tryz.underlying75 (t:=75) ?_)|(refine Q2 (hu:=by (first|exact T.f43_0|exact T.f72_5|exact T.f43_1)) ?_)|(refine Q3 (hu:=by (first|exact T.p3|exact T.p70)) ?_)|refine Q11 T.a43 ?_)|refine R2 ?_|fail)
 all_goals try (exfalso;simp only at *;omega)
 have hV3:=hV2.ext hx3 0
 have hL3:=hL2.ext hx3 0
 have hSe3:=hSe2.ext hx3 0
 refine Q1 ?_;refine Q4 (hc:=Oi (ix:=ix) hV3 hL3 hSe3 h8 hn) ?_;rintro _ w4 ⟨rfl,g4,q4,hS4,hV4,hL4,hSe4⟩;refine Kc ?_
 repeat' (first|refine R1 ?_|refine R2 ?_|fail)
 refine Zg ?_
 repeat' (first|refine R1 ?_|apply Zo|refine R2 ?_|fail)
 all_goals try (exfalso;simp only at *;omega)
 refine Kr Tryz.results12 ?_
 exact ⟨rfl,g4,q4,((Stq.of_ext hx2 0).trans (Stq.of_ext hx3 0)).trans hS4,hV4,hL4,hSe4⟩
set_option maxRecDepth 20000 in
theorem TV (hB:Bs W0 ix g w) (hT:Pow W0) (hV:Srv g w sb m kp dk slot log clk lasts cs n) (hi:cs[i]?=some x) (hcs:cs.length≤256) (hL:Ct g w x n outs q) (hSe:AV g w x.b x.ss x.cl x.rd x.qc none 0 [] #[.slice q2 l.length d2]) (h8:8<x.b) (hn:n≤199) (hU:∀t∈U,0<t∧(t<8∨x.b+3<t))
  (hst:∀R g1 w1 g2 w2,Ψ R g1 w1→Stq ix [0,8,x.b,x.b+1,x.b+2,x.b+3] g1 g2 w1 w2→Ψ R g2 w2) (hLf:∀R g1 w1,Ψ R g1 w1→Lf R)
  (hDo:∀g1 w1,Stq ix [x.b] g g1 w w1→Ctr Tryz.prog 58 [.pointer (some (adr (bx x.cl) 0)),.slice q2 l.length d2] w1 (fun v w'=>∃R,v=.tuple #[.agg (Aq.enc R).toArray,.bool false]∧∃g',Stq ix U g1 g' w1 w'∧Ψ R g' w')) (hD:Sl w.heap Cr dp dc [⟨2,i,num,none,0,0⟩]) :
  Ctr Tryz.prog 12 [.pointer (some (adr (bx sb) 0)),.slice dp 1 dc] w (fun v w'=>v=.int .i64 1∧∃R g' q',Stq ix (8 :: x.b :: (x.b+1) :: (x.b+2) :: U) g g' w w'∧Srv g' w' sb m kp dk slot log clk lasts cs (n+1)∧Ct g' w' x (n+1) (outs++Ed R) q'∧AV g' w' x.b x.ss x.cl x.rd x.qc none 0 [] #[]∧Ψ R g' w'):=by
 obtain ⟨lf,tq,lp,lc,cp,cc,bf,k1,k2,k3,k4,k5,k6⟩:=hV.ex
 have bb1:=k1.blk
 refine Ac Tryz.func12 Tryz.ntmps12 rfl rfl rfl ?_
 repeat' (first|refine R1 ?_|(refine Q1 ?_;first|(refine Q15 Tryz.underlying37 (t:=37) ?_)|(refine Q15 Tryz.underlying68 (t:=68) ?_)|(refine Q2 (hu:=T.f72_1) ?_)|(refine Q3 (hu:=T.p68) ?_)|(refine Q6 (hu:=T.s67) ?_))|apply ZF|apply ZK|refine R2 ?_|fail)
 all_goals try (exfalso;simp only at *;omega)
 refine Zm ?_
 repeat' (first|(refine Q1 ?_;first|(refine Q10 T.s67 hD.ok (q:=0) (hj:=rfl) (h1:=by (simp)) ?_)|(refine Q14 T.a43 (q:=0) (e:=Cr) (hs:=hD) (hq:=rfl) ?_))|refine R1 ?_|refine R2 ?_|fail)
 all_goals try (exfalso;simp only at *;omega)
 refine Q1 ?_;refine Q7 T.zero43 ?_;intro a7 w1 ha7 hA7 hx1 hs1
 have bb2:=bb1.ext hx1
 skip
 refine Q1 ?_;refine Q5 T.z43 hA7 ?_;intro w2 hA7 hg2 hs2
 have hx2:Ext w w2:=hx1.own hg2 (fun k hk=>by injection hk;omega)
 replace bb2:=bb1.ext hx2
 have hS2:Stq ix [8,x.b,x.b+1,x.b+2,x.b+3] g (rt g w 0) w w2:=Stq.of_ext hx2 0
 have hV2:=hV.ext hx2 0
 replace hA7:Blk w2.heap a7 43 [.int .i64 2,.int .i64 (i:Int),.int .i64 num,.slice none 0 0,.slice none 0 0]:=hA7
 have hL2:=hL.ext hx2 0
 have hSe2:=hSe.ext hx2 0
 repeat' (first|refine R1 ?_|(refine Q1 ?_;first|(refine Q4 (f:=25) (hc:=KC hV2 hi hcs hL2) ?_;rintro _ w3 ⟨rfl,hx3⟩;refine Kc ?_;replace hA7:=hA7.ext (Kx hx3))|(refine Q15 Tryz.underlying70 (t:=70) ?_)|(refine Q49 Tryz.underlying75 (t:=75) ?_)|(refine Q2 (hu:=by (first|exact T.f43_0|exact T.f72_5|exact T.f43_1)) ?_)|(refine Q3 (hu:=by (first|exact T.p3|exact T.p70)) ?_)|refine Q11 T.a43 ?_)|refine R2 ?_|fail)
 all_goals try (exfalso;simp only at *;omega)
 have hV3:=hV2.ext hx3 0
 have hL3:=hL2.ext hx3 0
 have hSe3:=hSe2.ext hx3 0
 have hS3:Stq ix [8,x.b,x.b+1,x.b+2,x.b+3] g (rt (rt g w 0) w2 0) w w3:=hS2.trans (Stq.of_ext hx3 0)
 have hB3:Bs W0 ix (rt (rt g w 0) w2 0) w3:=hB.stp hS3 (by simp;omega)
 refine Q1 ?_;refine Q4 (hc:=Oj hB3 hT hV3 hL3 hSe3 h8 hn hU hst hLf (fun g1 w1 hs=>hDo g1 w1 (((Stq.of_ext hx2 0).trans (Stq.of_ext hx3 0)).trans hs))) ?_;rintro _ w4 ⟨rfl,R,g4,q4,hS4,hV4,hL4,hSe4,hΨ⟩;refine Kc ?_
 repeat' (first|refine R1 ?_|refine R2 ?_|fail)
 refine Zg ?_
 repeat' (first|refine R1 ?_|apply Zo|refine R2 ?_|fail)
 all_goals try (exfalso;simp only at *;omega)
 refine Kr Tryz.results12 ?_
 exact ⟨rfl,R,g4,q4,((Stq.of_ext hx2 0).trans (Stq.of_ext hx3 0)).trans hS4,hV4,hL4,hSe4,hΨ⟩
set_option maxRecDepth 20000 in
theorem VH (hB:Bs W0 ix g w) (hT:Pow W0) (hE:CL W0) (hV:Srv g w sb m kp dk slot log clk lasts cs n) (hi:cs[i]?=some x) (hcs:cs.length≤256) (hL:Ct g w x n outs q) (hSe:AV g w x.b x.ss x.cl x.rd x.qc none 0 [] #[]) (h8:8<x.b) (hrd:W0.heap.size≤x.rd) (hn:n≤199) (hb:SlT g w 0 Ai q1 d1 (prB l)) (hl:FE l) (hD:Sl w.heap Cr dp dc [⟨1,i,num,q1,(prB l).length,d1⟩]) :
  Ctr Tryz.prog 12 [.pointer (some (adr (bx sb) 0)),.slice dp 1 dc] w (fun v w'=>v=.int .i64 0∧∃g' q' q2 d2,Stq ix [8,x.b,x.b+1,x.b+2,x.b+3] g g' w w'∧Srv g' w' sb m kp dk slot log clk lasts cs (n+2)∧Ct g' w' x (n+2) outs q'∧AV g' w' x.b x.ss x.cl x.rd x.qc none 0 [] #[.slice q2 l.length d2]∧SlT g' w' (x.b+3) Ar q2 d2 l):=by
 obtain ⟨lf,tq,lp,lc,cp,cc,bf,k1,k2,k3,k4,k5,k6⟩:=hV.ex
 have bb1:=k1.blk
 refine Ac Tryz.func12 Tryz.ntmps12 rfl rfl rfl ?_
 repeat' (first|refine R1 ?_|(refine Q1 ?_;first|(refine Q15 Tryz.underlying37 (t:=37) ?_)|(refine Q15 Tryz.underlying68 (t:=68) ?_)|(refine Q2 (hu:=T.f72_1) ?_)|(refine Q3 (hu:=T.p68) ?_)|(refine Q6 (hu:=T.s67) ?_))|apply ZF|apply ZK|refine R2 ?_|fail)
 all_goals try (exfalso;simp only at *;omega)
 refine Zm ?_
 repeat' (first|(refine Q1 ?_;first|(refine Q10 T.s67 hD.ok (q:=0) (hj:=rfl) (h1:=by (simp)) ?_)|(refine Q14 T.a43 (q:=0) (e:=Cr) (hs:=hD) (hq:=rfl) ?_))|refine R1 ?_|refine R2 ?_|fail)
 all_goals try (exfalso;simp only at *;omega)
 refine Q1 ?_;refine Q7 T.zero43 ?_;intro a7 w1 ha7 hA7 hx1 hs1
 have bb2:=bb1.ext hx1
 skip
 refine Q1 ?_;refine Q5 T.z43 hA7 ?_;intro w2 hA7 hg2 hs2
 have hx2:Ext w w2:=hx1.own hg2 (fun k hk=>by injection hk;omega)
 replace bb2:=bb1.ext hx2
 have hS2:Stq ix [8,x.b,x.b+1,x.b+2,x.b+3] g (rt g w 0) w w2:=Stq.of_ext hx2 0
 have hV2:=hV.ext hx2 0
 replace hA7:Blk w2.heap a7 43 [.int .i64 1,.int .i64 (i:Int),.int .i64 num,.slice q1 (prB l).length d1,.slice none 0 0]:=hA7
 have hL2:=hL.ext hx2 0
 have hSe2:=hSe.ext hx2 0
 repeat' (first|refine R1 ?_|(refine Q1 ?_;first|(refine Q4 (f:=25) (hc:=KC hV2 hi hcs hL2) ?_;rintro _ w3 ⟨rfl,hx3⟩;refine Kc ?_;replace hA7:=hA7.ext (Kx hx3))|(refine Q15 Tryz.underlying70 (t:=70) ?_)|(refine Q49 Tryz.underlying75 (t:=75) ?_)|(refine Q2 (hu:=by (first|exact T.f43_0|exact T.f72_5|exact T.f43_1)) ?_)|(refine Q3 (hu:=by (first|exact T.p3|exact T.p70)) ?_)|refine Q11 T.a43 ?_)|refine R2 ?_|fail)
 all_goals try (exfalso;simp only at *;omega)
 have hV3:=hV2.ext hx3 0
 have hL3:=hL2.ext hx3 0
 have hSe3:=hSe2.ext hx3 0
 have hS3:Stq ix [8,x.b,x.b+1,x.b+2,x.b+3] g (rt (rt g w 0) w2 0) w w3:=hS2.trans (Stq.of_ext hx3 0)
 have hB3:Bs W0 ix (rt (rt g w 0) w2 0) w3:=hB.stp hS3 (by simp;omega)
 have hb3:=hb.stp hS3 (by simp;omega)
 refine Q1 ?_;refine Q4 (hc:=Qf (ix:=ix) hB3 hT hE hV3 hL3 hSe3 h8 hrd hn hb3 hl) ?_;rintro _ w4 ⟨rfl,g4,q4,q2,d2,hS4,hV4,hL4,hSe4,hW4⟩;refine Kc ?_
 repeat' (first|refine R1 ?_|refine R2 ?_|fail)
 refine Zg ?_
 repeat' (first|refine R1 ?_|apply Zo|refine R2 ?_|fail)
 all_goals try (exfalso;simp only at *;omega)
 refine Kr Tryz.results12 ?_
 exact ⟨rfl,g4,q4,q2,d2,((Stq.of_ext hx2 0).trans (Stq.of_ext hx3 0)).trans hS4,hV4,hL4,hSe4,hW4⟩
end Go.Proofs.YtkcolpfanmdmiaaGreatDoor
namespace Go.V
end Go.V
namespace Go.Proofs.YtkcolpfanmdmiaaGreatDoor
open Go.V Go.RowKit Go.Conc
attribute [local irreducible] PlainT
theorem Il {p:Option Addr} {c:Nat} {xs:List UInt8} {w:World} (hx:Sl w.heap Ai p c xs) (hb:xs.length≤1000000000) :
  Ctr Tryz.prog 30 [.slice p xs.length c] w (fun v w'=>∃p' c',v=.slice p' xs.length c'∧Go.V.Own w' w.heap.size 5 Ai p' c' xs∧Ext w w'):=by
 refine Ac Tryz.func30 Tryz.ntmps30 rfl rfl rfl ?_
 repeat' (first|refine R1 ?_|(refine Q1 ?_;refine Q48 T.s40 ?_)|refine R2 ?_|(apply Zy;exact rfl;all_goals intro h)|fail)
 ·refine Kr Tryz.results30 ?_
  have hn:p=none:=by simpa using h
  have h1:=hx.ok.nul hn
  have h2:=hx.ok.le
  obtain rfl:xs=[]:=List.eq_nil_of_length_eq_zero (by omega)
  exact ⟨none,0,rfl,Go.V.Own.nil _ _ _ _,Kz⟩
 ·refine Q1 ?_
  refine Q46 Ai T.s40 ?_
  intro p1 w1 ho hx1 hs1
  have hsl:=hx.ext hx1
  repeat' (first|refine R1 ?_|(refine Q1 ?_;(refine Q45 T.s40 ho hsl ?_;intro p2 c2 w2 ho2 hg2 hn2))|refine R2 ?_|fail)
  refine Kr Tryz.results30 ?_
  exact ⟨p2,c2,rfl,ho2,Ext.own hx1 hg2 (fun k hk=>(ho.ge k hk).1)⟩
structure Nk where
 (life:Int) (ip:Option Addr) (il ic:Nat) (op:Option Addr) (ol oc:Nat) (over:Bool)
def Gm:Enc Nk:=⟨4,fun d=>[.int .i64 d.life,.slice d.ip d.il d.ic,.slice d.op d.ol d.oc,.bool d.over],fun _=>rfl,fun _ v hv=>by simp at hv;rcases hv with rfl|rfl|rfl|rfl <;> rfl,by decide⟩
def Wrs (w:World) (B:Nat) (cs:List Cn) (ou:Nat→List UInt8) (k:Nat) (ws:List Nk):Prop :=
 ∀i x,cs[i]?=some x→i<k→∃r,ws[i]?=some r∧r.ol=(ou i).length∧Go.V.Own w B 5 Ai r.op r.oc (ou i)
variable {cs : List Cn}
set_option maxRecDepth 20000 in
theorem Me (hV:Srv g w sb m kp dk slot log clk lasts cs n) (hcs:cs.length≤256) (hn:n≤200) (hC:∀i x,cs[i]?=some x→(∃q,Ct g w x n (ou i) q)∧∃po co out buf,AV g w x.b x.ss x.cl x.rd x.qc po co out buf) :
  Ctr Tryz.prog 16 [.pointer (some (adr (bx sb) 0))] w (fun v w'=>∃p c ws,v=.slice p ws.length c∧ws.length=cs.length∧Go.V.Own w' w.heap.size 89 Gm p c ws∧Wrs w' w.heap.size cs ou cs.length ws∧Ext w w'):=by
 obtain ⟨lf,tq,lp,lc,cp,cc,bf,k1,k2,k3,k4,k5,k6⟩:=hV.ex
 have bb1:=k1.blk
 have hlen:(cs.map (·.ln)).length=cs.length:=List.length_map _
 refine Ac Tryz.func16 Tryz.ntmps16 rfl rfl rfl ?_
 repeat' (first|refine R1 ?_|(refine Q1 ?_;first|(refine Q15 Tryz.underlying37 (t:=37) ?_)|(refine Q2 (hu:=T.f72_4) ?_)|(refine Q3 (hu:=T.p69) ?_)|(refine Q6 (hu:=T.s69) ?_))|refine R2 ?_|fail)
 all_goals try (exfalso;simp only at *;omega)
 refine Q1 ?_
 refine Q28 Gm T.s56 ?_
 intro p1 w1 ho1 hx1 hz1
 have bb2:=bb1.ext hx1
 repeat' (first|refine R1 ?_|(refine Q1 ?_;first|(refine Q2 (hu:=T.f72_4) ?_)|(refine Q3 (hu:=T.p69) ?_)|(refine Q6 (hu:=T.s69) ?_))|refine R2 ?_|fail)
 refine Zh (ι:=Nat × List Nk × Option Addr × Nat) (fun y=>[(3,.slice y.2.2.1 y.2.1.length y.2.2.2),(18,.slice cp (cs.map (·.ln)).length cc),(19,.int .i64 ((cs.map (·.ln)).length:Int)),(20,.int .i64 (y.1:Int))])
  (fun y w'=>Ext w w'∧y.1≤cs.length∧y.2.1.length=y.1∧Go.V.Own w' w.heap.size 89 Gm y.2.2.1 y.2.2.2 y.2.1∧Wrs w' w.heap.size cs ou y.1 y.2.1) (fun y=>cs.length - y.1) (0,[],p1,_)
  ⟨rfl,rfl,rfl,rfl,trivial⟩ ⟨hx1,Nat.zero_le _,rfl,ho1,fun i x h h0=>absurd h0 (Nat.not_lt_zero _)⟩ ?_
 rintro ⟨k,ws,po,co⟩ w3 ⟨hx3,hk,hl3,hO,hW⟩
 simp only at hk hl3 hO hW
 by_cases hlt:k<cs.length
 ·obtain ⟨x,hx⟩:=Aj hlt
  obtain ⟨⟨q,hL⟩,po',co',out',buf',hSe⟩:=hC k x hx
  have hL3:=hL.ext hx3 0
  have hSe3:=hSe.ext hx3 0
  obtain ⟨life,pi,ci,ins,pq,cq,l1,l2,l3,l4,l5⟩:=hL3.ex
  have bl:=l1.blk
  have hs:=(k3.ext hx3 0).sl
  have hi':(cs.map (·.ln))[k]?=some x.ln:=by rw [List.getElem?_map,hx];rfl
  have hlt':k<(cs.map (·.ln)).length:=by omega
  repeat' (first|refine R1 ?_|(refine Q1 ?_;first|(refine Q10 T.s69 hs.ok (q:=k) (hj:=rfl) (h1:=hlt') ?_)|(refine Q9 (q:=k) (e:=ePt) (hu:=T.p75) (hs:=hs) (hq:=hi') ?_)|(refine Q2 (hu:=T.f91_1) ?_)|refine Q34 T.a89 ?_)|refine R2 ?_|(apply Za;exact rfl;all_goals (intro h;try (exfalso;omega)))|fail)
  refine Q1 ?_;refine Q7 T.zero89 ?_;intro a6 w4 ha6 hA6 hx4 hs4
  skip
  refine Q1 ?_;refine Q5 T.z89 hA6 ?_;intro w5 hA6 hg5 hs5
  replace hA6:Blk w5.heap a6 89 [.int .i64 life,.slice pi ins.length ci,.slice pq (ou k).length cq,.bool false]:=hA6
  have hx35:Ext w3 w5:=hx4.own hg5 (fun k hk=>by injection hk;omega)
  have hx35d:=hx35.trans (Ext.drew Ext.rfl')
  have si:=(l2.ext hx35d 0).sl
  have so:=(l3.ext hx35d 0).sl
  have hl0:n * 3000≤200 * 3000:=Nat.mul_le_mul_right _ hn
  have hl1:n * 1000000≤200 * 1000000:=Nat.mul_le_mul_right _ hn
  repeat' (first|(refine Q1 ?_;first|(refine Q4 (f:=30) (hc:=Il si (by omega)) ?_;rintro _ w6 ⟨p6,c6,rfl,ho6,hx6⟩;refine Kc ?_;replace hA6:=hA6.ext (Kx hx6))|(refine Q4 (f:=30) (hc:=Il (so.ext hx6) (by omega)) ?_;rintro _ w7 ⟨p7,c7,rfl,ho7,hx7⟩;refine Kc ?_;replace hA6:=hA6.ext (Kx hx7))|(refine Q2 (hu:=by (first|exact T.f89_1|exact T.f89_2)) ?_)|(refine Q3 (hu:=T.p40) ?_))|refine R1 ?_|refine Zf 1 [] [0,1,3,4,2,6,5,7,8,9] mixed (by decide +kernel) ?_|fail)
  refine Q1 ?_;refine Q5 T.z40 hA6 ?_;intro w8 hA8 hg8 hs8
  replace hA8:Blk w8.heap a6 89 [.int .i64 life,.slice p6 ins.length c6,.slice pq (ou k).length cq,.bool false]:=hA8
  repeat' (refine Q1 ?_;(refine Q2 (hu:=T.f89_2) ?_))
  refine Q1 ?_;refine Q5 T.z40 hA8 ?_;intro w9 hA9 hg9 hs9
  replace hA9:Blk w9.heap a6 89 [.int .i64 life,.slice p6 ins.length c6,.slice p7 (ou k).length c7,.bool false]:=hA9
  have z5:=hx35d.size
  have z6:=hx6.size
  have z7:=hx7.size
  have hx39:Ext w3 w9:=(((hx35d.trans hx6).trans hx7).own hg8 (fun k hk=>by injection hk;omega)).own hg9 (fun k hk=>by injection hk;omega)
  have hSe9:=hSe3.ext hx39 0
  have bl9:=bl.ext hx39
  repeat' (first|refine R1 ?_|(refine Q1 ?_;first|(refine Q4 (f:=31) (hc:=FY hSe9) ?_;rintro _ _ ⟨rfl,rfl⟩;refine Kc ?_)|(refine Q2 (hu:=by (first|exact T.f91_3|exact T.f91_0|exact T.f89_3)) ?_)|(refine Q3 (hu:=by (first|exact T.p4|exact T.p87)) ?_))|refine R2 ?_|fail)
  refine Q1 ?_;refine Q5 T.z4 hA9 ?_;intro w10 hA10 hg10 hs10
  replace hA10:Blk w10.heap a6 89 (Gm.enc ⟨life,p6,ins.length,c6,p7,(ou k).length,c7,false⟩):=hA10
  have hx310:Ext w3 w10:=hx39.own hg10 (fun k hk=>by injection hk;omega)
  have hO10:=hO.ext hx310
  repeat' (first|refine R1 ?_|(refine Q1 ?_;(refine Q11 T.a89 (hb:=hA10) ?_))|fail)
  refine Q1 ?_
  refine Q12 Gm ⟨life,p6,ins.length,c6,p7,(ou k).length,c7,false⟩ T.s56 ?_
  intro p11 w11 hp11 hs11 hb11 hx11 hz11
  have hO11:=hO10.ext hx11
  have hx311:=hx310.trans hx11
  repeat' (first|refine R1 ?_|(refine Q1 ?_;(refine Q16 T.s56 hO11 hs11 (hB:=by (have:=hx3.size;have:=hx311.size;omega)) ?_;intro p12 c12 w12 ha12))|refine R2 ?_|fail)
  have hx312:Ext w w12:=(hx3.trans hx311).own ha12.grown (fun k hk=>(hO.ge k hk).1)
  have hn7:=(ho7.base (B':=w.heap.size) (by have:=hx3.size;omega)).kept hg8 (fun a ha e=>ho7.apartB hA6 (by decide) (by rw [ha];exact e.symm))
  have hn8:=hn7.kept hg9 (fun a ha e=>hn7.apartB hA8 (by decide) (by rw [ha];exact e.symm))
  have hn9:=(hn8.kept hg10 (fun a ha e=>hn8.apartB hA9 (by decide) (by rw [ha];exact e.symm))).ext hx11
  have hn12:=hn9.kept ha12.grown (hO11.apartR hn9 (by decide))
  refine Zc (k+1,ws++[⟨life,p6,ins.length,c6,p7,(ou k).length,c7,false⟩],p12,c12) ⟨rfl,rfl,rfl,rfl,trivial⟩ ⟨hx312,by simp only;omega,by simp only [List.length_append,List.length_cons,List.length_nil];omega,ha12.own,?_⟩ (by simp only;omega)
  intro i y hy hik
  by_cases e:i=k
  ·subst e
   exact ⟨_,by simp only;rw [List.getElem?_append_right (by omega),hl3,Nat.sub_self];rfl,rfl,hn12⟩
  ·obtain ⟨r,h1,h2,h3⟩:=hW i y hy (by simp only at hik;omega)
   have h4:=h3.ext hx311
   exact ⟨r,by simp only;rw [List.getElem?_append_left (by simp only at hik;omega)];exact h1,h2,h4.kept ha12.grown (hO11.apartR h4 (by decide))⟩
 ·obtain rfl:k=cs.length:=by omega
  repeat' (first|refine R1 ?_|refine R2 ?_|(apply Za;exact rfl;all_goals (intro h;try (exfalso;omega)))|fail)
  all_goals try (exfalso;simp only at *;omega)
  refine Kr Tryz.results16 ?_
  exact ⟨po,co,ws,rfl,hl3,hO,hW,hx3⟩
open Go.V
attribute [local irreducible] Blk Own hcell Ao Ab Ak Ad Ap Aa Ag EqT Au
def Et:List UInt8→Nat
 | b :: c :: l=>if b=13∧c=10 then 0 else Et (c :: l)+1
 | _=>0
theorem OZ {cs:List UInt8} (h:cs.length≤1):Et cs=0:=by
 match cs,h with
 | [],_=>rfl
 | [_],_=>rfl
 | _ :: _ :: _,h=>simp at h
theorem Ny {cs:List UInt8} (h:cs.take 2=[13,10]):Et cs=0:=by
 match cs,h with
 | [],h=>simp at h
 | [_],h=>simp at h
 | b :: c :: l,h =>
  simp only [List.take_succ_cons,List.take_zero,List.cons.injEq,and_true] at h
  unfold Et
  rw [if_pos h]
theorem Qv {b c:UInt8} {l:List UInt8} (h:¬(b=13∧c=10)):Et (b :: c :: l)=Et (c :: l)+1:=by
 conv=>lhs;unfold Et
 rw [if_neg h]
theorem JK:∀{cs:List UInt8},(cs.drop (CZ cs)).take 2=[13,10]→Et cs=CZ cs
 | [],h=>by simp [CZ] at h
 | b :: l,h=>by
  by_cases hb:CP b=true
  ·have e:CZ (b :: l)=0:=if_pos hb
   rw [e] at h ⊢
   exact Ny h
  ·have e:CZ (b :: l)=CZ l+1:=if_neg hb
   rw [e] at h ⊢
   rw [List.drop_succ_cons] at h
   have ih:=JK h
   match l,h with
   | [],h=>simp at h
   | c :: l,h =>
    rw [Qv (fun hh=>hb (by rw [hh.1];decide)),ih]
theorem Iu {cs:List UInt8} (h:cs.length≤Et cs+1∨Et cs=0):Bt cs=.none:=by
 by_cases hl:(cs.drop (CZ cs)).take 2=[13,10]
 ·have h1:=JK hl
  have h2:=TC hl
  exact Hu (.inl (by omega))
 ·exact Hu (.inr hl)
def Plain (m:UInt8) (s:List UInt8):Prop:=CP m=false∧∀b∈s,CP b=false
theorem CJ {cs:List UInt8} {m:UInt8} {s r:List UInt8} (hc:cs=(m :: s)++13 :: 10 :: r) (he:Et cs=s.length+1):(Plain m s→Bt cs=BS m s r (s.length+3))∧(¬Plain m s→Bt cs=.none):=by
 constructor
 ·intro hp
  have e:cs=(m :: (s++Bp))++r:=by rw [hc];simp [Bp]
  rw [e]
  exact Dg hp.1 hp.2
 ·intro hn
  have hlt:¬s.length+1≤CZ cs:=fun hle=>hn (by
   have h1:=Qr cs _ hle
   have h2:cs.take (s.length+1)=m :: s:=by rw [hc];exact List.take_left' rfl
   rw [h2] at h1
   exact ⟨h1 m (by simp),fun b hb=>h1 b (List.mem_cons_of_mem _ hb)⟩)
  refine Hu (.inr fun hl=>?_)
  have:=JK hl
  omega
theorem LH {cs:List UInt8} {m:UInt8} {s r:List UInt8} (hc:cs=(m :: s)++13 :: 10 :: r) (he:Et cs=s.length+1) (h:Plain m s→BS m s r (s.length+3)=.none):Bt cs=.none:=by
 by_cases hp:Plain m s
 ·rw [(CJ hc he).1 hp,h hp]
 ·exact (CJ hc he).2 hp
theorem LW {m:UInt8} {s:List UInt8} {n:Int} (hm:CP m=false) (h:Cq (Af s) n):Plain m s:=by
 refine ⟨hm,fun b hb=>?_⟩
 have e:s=Lib.itoa n:=by
  have h1:=congrArg (fun x:ByteArray=>x.data.toList) h.2
  simp only [CB] at h1
  rw [h1]
  unfold Af
  simp
 rw [e] at hb
 exact Ew n b hb
theorem EG {m:UInt8} {s:List UInt8} (hm:CP m=false):Plain m s ↔ EU (Af s)=true:=by
 have e:(Af s).data.toList=s:=by unfold Af;simp
 constructor
 ·intro h
  unfold EU
  rw [e,List.all_eq_true]
  intro b hb
  have:=h.2 b hb
  unfold CP at this
  simp only [Bool.or_eq_false_iff,beq_eq_false_iff_ne] at this
  simp [this.1,this.2]
 ·intro h
  exact ⟨hm,fun b hb=>Hq h b (by rw [e];exact hb)⟩
theorem XG {s:List UInt8} (n:Int) (h:Cq (Af s) n):Af s=⟨#[45,49]⟩ ↔ n = -1:=by
 have e:CK (-1)=⟨#[45,49]⟩:=by decide +kernel
 constructor
 ·intro h1
  exact LJ h ⟨by unfold AC;omega,by rw [h1,e]⟩
 ·intro h1
  rw [← h.2,h1,e]
theorem Wm {s:List UInt8} (h:Af s=⟨#[45,49]⟩):Cq (Af s) (-1):=⟨by unfold AC;omega,by rw [h];decide +kernel⟩
theorem Gz {kd:Int} {s:ByteArray} {w:World} (hkd:kd=0∨kd=1) (hs:s.size≤maxLen) (hnb:EU s=true):Ctr Tryz.prog 36 [.agg (Aq.enc (Av kd s 0)).toArray,.int .i64 0] w (fun v w'=>v=.bool true∧Ext w w'):=by
 simp only [maxLen] at hs
 have hb:=(Uw s).1 hnb
 rcases hkd with rfl|rfl
 all_goals
  refine Ac Tryz.func36 Tryz.ntmps36 rfl rfl rfl ?_
  repeat' (refine R1 ?_)
  refine Q1 ?_;refine Q8 ?_;intro a1 w1 ha1 hA1 hx1 hs1
  replace hA1:Blk w1.heap a1 33 [.int .i64 _,.string s,.int .i64 0,.slice none 0 0]:=hA1
  repeat' (first|refine R1 ?_|(refine Q1 ?_;first|(refine Q2 (hu:=by (first|exact T.f33_0|exact T.f33_3|exact T.f33_2)) ?_)|(refine Q3 (hu:=by (first|exact T.p3|exact T.p31)) ?_)|(refine Q6 (hu:=T.s31) ?_))|refine R2 ?_|fail)
  all_goals try (exfalso;omega)
  refine Zh (ι:=Nat) (fun k=>[(1,.int .i64 0),(2,.pointer (some (adr (bx a1) 0))),(5,.int .i64 (k:Int))])
   (fun k w'=>w1=w'∧k≤s.size) (fun k=>s.size - k) 0 ⟨rfl,rfl,rfl,trivial⟩ ⟨rfl,Nat.zero_le _⟩ ?_
  rintro k _ ⟨rfl,hk⟩
  by_cases hlt:k<s.size
  ·have h2:=hb k hlt
   have hbn:¬((BA s ((k:Int).toNat)).toNat:Int)=13∧¬((BA s ((k:Int).toNat)).toNat:Int)=10:=by
    rw [Int.toNat_natCast]
    constructor
    ·intro e;exact h2.1 (UInt8.toNat_inj.1 (by show (BA s k).toNat=13;omega))
    ·intro e;exact h2.2 (UInt8.toNat_inj.1 (by show (BA s k).toNat=10;omega))
   repeat' (first|refine R1 ?_|(refine Q1 ?_;first|(refine Q2 (hu:=by (first|exact T.f33_0|exact T.f33_1)) ?_)|(refine Q3 (hu:=by (first|exact T.p3|exact T.p9)) ?_)|refine Q17 T.str9 ?_|refine Q91 T.str9 ?_)|refine R2 ?_|(apply Za;exact rfl;all_goals (intro h;try (exfalso;omega)))|((fail_if_success (refine Q1 ?_));apply Zb;exact rfl;exact rfl;all_goals (intro h;try (exfalso;omega)))|fail)
   all_goals try (exfalso;omega)
   exact Zc (k+1) ⟨rfl,rfl,rfl,trivial⟩ ⟨rfl,by omega⟩ (by omega)
  ·repeat' (first|refine R1 ?_|(refine Q1 ?_;first|(refine Q2 (hu:=by (first|exact T.f33_0|exact T.f33_1)) ?_)|(refine Q3 (hu:=by (first|exact T.p3|exact T.p9)) ?_)|refine Q17 T.str9 ?_)|refine R2 ?_|((fail_if_success (refine Q1 ?_));apply Zb;exact rfl;exact rfl;all_goals (intro h;try (exfalso;omega)))|fail)
   all_goals try (exfalso;omega)
   refine Zh (ι:=Unit) (fun _=>[(2,.pointer (some (adr (bx a1) 0))),(6,.int .i64 0)]) (fun _ w'=>w1=w') (fun _=>0) () ⟨rfl,rfl,trivial⟩ rfl ?_
   rintro _ _ rfl
   repeat' (first|refine R1 ?_|(refine Q1 ?_;first|(refine Q2 (hu:=T.f33_3) ?_)|(refine Q3 (hu:=T.p31) ?_)|(refine Q6 (hu:=T.s31) ?_))|refine R2 ?_|fail)
   all_goals try (exfalso;omega)
   refine Kr Tryz.results36 ?_
   exact ⟨rfl,hx1⟩
def RefLf (w:World) (d:Nat) (bs:List UInt8) (k:Nat) (v:Value) (w':World):Prop :=
 Ext w w'∧((∃t j r,rdT d (bs.drop k)=some (t,j)∧v=.tuple #[.agg (Aq.enc r).toArray,.int .i64 ((k+j:Nat):Int)]∧Cc (veil (fun q=>q<w.heap.size) w'.heap) (d+1) r t) ∨
 (rdT d (bs.drop k)=none∧v=.tuple #[.agg (Aq.enc zRep).toArray,.int .i64 (-1)]))
theorem MU {w:World} {k:Nat} {p:Option Addr} {c:Nat} {bs:List UInt8} (hk:k≤bs.length) (hbs:bs.length≤1000000000) (hC:Sl w.heap Ai p c bs) (hgd:Bt (bs.drop k)≠.none) (h42:∀m,bs[k]?=some m→m≠42) :
  Ctr Tryz.prog 20 [.slice p bs.length c,.int .i64 (k:Int),.int .i64 ((4:Nat):Int)] w (RefLf w 4 bs k):=by
 have hok:=hC.ok
 have hle:=hok.le
 have n1:=hC.bound
 obtain ⟨cs,hcs⟩:∃cs,bs.drop k=cs:=⟨_,rfl⟩
 rw [hcs] at hgd
 have hcl:cs.length=bs.length - k:=by rw [← hcs,List.length_drop]
 have hcap:bs.length≤maxLen:=Nat.le_trans hle hok.cap
 have hget:∀j,cs[j]?=bs[k+j]?:=fun j=>by rw [← hcs,List.getElem?_drop]
 refine Ac Tryz.func20 Tryz.ntmps20 rfl rfl rfl ?_
 repeat' (refine R1 ?_)
 refine Q1 ?_;refine Q7 T.zero33 ?_;intro a6 w1 ha6 hA6 hx1 hs1
 replace hA6:Blk w1.heap a6 33 (Aq.enc zRep):=hA6
 repeat' (first|refine R1 ?_|refine R2 ?_|fail)
 refine Zh (ι:=Nat) (fun q=>[(0,.slice p bs.length c),(1,.int .i64 (k:Int)),(2,.int .i64 ((4:Nat):Int)),(6,.pointer (some (adr (bx a6) 0))),(8,.int .i64 ((k+q:Nat):Int))])
  (fun q w'=>Ext w1 w'∧Et cs=q+Et (cs.drop q)∧q≤cs.length) (fun q=>cs.length - q) 0 ⟨rfl,rfl,rfl,rfl,rfl,trivial⟩ ⟨Kz,by simp,Nat.zero_le _⟩ ?_
 rintro q w2 ⟨hx2,hcr,hq⟩
 have hA2:=hA6.ext hx2
 have hx02:Ext w w2:=hx1.trans hx2
 have hC2:=hC.ext hx02
 have hz2:=hx02.size
 have l6:=hA6.lt
 refine Zn [(0,.slice p bs.length c),(1,.int .i64 (k:Int)),(2,.int .i64 ((4:Nat):Int)),(6,.pointer (some (adr (bx a6) 0))),(8,.int .i64 ((k+q:Nat):Int))] ⟨rfl,rfl,rfl,rfl,rfl,trivial⟩ ?_
 obtain ⟨e,he⟩:∃e,e=k+q:=⟨_,rfl⟩
 rw [← he]
 by_cases hf:e+1<bs.length
 rotate_left
 ·have hno:Bt cs=.none:=Iu (.inl (by
   rw [OZ (cs:=cs.drop q) (by rw [List.length_drop];omega)] at hcr
   omega))
  exact absurd hno hgd
 obtain ⟨x,hx⟩:=Aj (xs:=bs) (k:=e) (by omega)
 obtain ⟨y,hy⟩:=Aj (xs:=bs) (k:=e+1) hf
 have hcx:cs[q]?=some x:=by rw [hget,← he];exact hx
 have hcy:cs[q+1]?=some y:=by rw [hget,show k+(q+1)=e+1 by omega];exact hy
 have hdq:cs.drop q=x :: y :: cs.drop (q+2):=by rw [drop_at hcx,drop_at hcy]
 rw [hdq] at hcr
 by_cases hpr:x=13∧y=10
 rotate_left
 ·rw [Qv hpr] at hcr
  by_cases hx13:x=13
  ·have hy10:¬(y.toNat:Int)=10:=FM (c:=10) (fun h=>hpr ⟨hx13,h⟩)
   have hxi:(x.toNat:Int)=13:=by rw [hx13];rfl
   repeat' (first|refine R1 ?_|(refine Q1 ?_;first|(refine Q10 T.s40 hok (q:=e) ?_)|(refine Q9 (q:=e) (e:=Ai) (hu:=T.p5) (hs:=hC2) (hq:=hx) ?_)|(refine Q10 T.s40 hok (q:=e+1) ?_)|(refine Q9 (q:=e+1) (e:=Ai) (hu:=T.p5) (hs:=hC2) (hq:=hy) ?_)|(refine Q6 (hu:=T.s40) ?_))|refine R2 ?_|(apply Za;exact rfl;all_goals (intro h;try (exfalso;omega)))|((fail_if_success (refine Q1 ?_));apply Zb;exact rfl;exact rfl;all_goals (intro h;try (exfalso;omega)))|fail)
   all_goals try (exfalso;omega)
   all_goals exact Zc (q+1) ⟨rfl,rfl,rfl,rfl,(by show some (Value.int .i64 _)=some (Value.int .i64 _);congr 2;omega),trivial⟩ ⟨Kz,by rw [drop_at hcy];show Et cs=q+1+Et (y :: cs.drop (q+2));omega,by omega⟩ (by omega)
  ·have hxi:¬(x.toNat:Int)=13:=FM (c:=13) hx13
   repeat' (first|refine R1 ?_|(refine Q1 ?_;first|(refine Q10 T.s40 hok (q:=e) ?_)|(refine Q9 (q:=e) (e:=Ai) (hu:=T.p5) (hs:=hC2) (hq:=hx) ?_)|(refine Q6 (hu:=T.s40) ?_))|refine R2 ?_|((fail_if_success (refine Q1 ?_));apply Zb;exact rfl;exact rfl;all_goals (intro h;try (exfalso;omega)))|fail)
   all_goals try (exfalso;omega)
   all_goals exact Zc (q+1) ⟨rfl,rfl,rfl,rfl,(by show some (Value.int .i64 _)=some (Value.int .i64 _);congr 2;omega),trivial⟩ ⟨Kz,by rw [drop_at hcy];show Et cs=q+1+Et (y :: cs.drop (q+2));omega,by omega⟩ (by omega)
 have hxi:(x.toNat:Int)=13:=by rw [hpr.1];rfl
 have hyi:(y.toNat:Int)=10:=by rw [hpr.2];rfl
 have hcr0:Et (x :: y :: cs.drop (q+2))=0:=Ny (by rw [hpr.1,hpr.2];rfl)
 rw [hcr0,Nat.add_zero] at hcr
 by_cases hq0:q=0
 ·have hno:Bt cs=.none:=Iu (.inr (by omega))
  exact absurd hno hgd
 obtain ⟨m,s,hms⟩:∃m s,cs.take q=m :: s:=by
  cases e1:cs.take q with
  | nil=>have:=congrArg List.length e1;rw [List.length_take,List.length_nil] at this;omega
  | cons m s=>exact ⟨m,s,rfl⟩
 have hsl:s.length+1=q:=by
  have:=congrArg List.length hms
  rw [List.length_take,List.length_cons] at this
  omega
 obtain ⟨k1,hk1⟩:∃k1,k1=k+(s.length+3):=⟨_,rfl⟩
 have hk1e:k1=e+2:=by omega
 have hdk1:bs.drop k1=cs.drop (q+2):=by
  have e1:k1=k+(q+2):=by omega
  rw [e1,← List.drop_drop,hcs]
 have hcd:cs=(m :: s)++13 :: 10 :: bs.drop k1:=by
  rw [← hms,hdk1,← hpr.1]
  conv=>lhs;rw [← List.take_append_drop q cs,hdq]
  rw [hpr.2]
 have hce:Et cs=s.length+1:=by omega
 have hms2:(Af (m :: s)).size=s.length+1:=by rw [BR];rfl
 have hss:(Af s).size=s.length:=BR s
 have hm:bs[k]?=some m:=by
  have h1:(cs.take q)[0]?=some m:=by rw [hms];rfl
  rw [List.getElem?_take,if_pos (by omega),hget,Nat.add_zero] at h1
  exact h1
 have hS:Sl w2.heap Ai (AP p c (k+1) 1) (c - (k+1)) s:=by
  have h1:=(hC2.drop (l:=k+1) (by omega)).take (q - 1)
  have h2:(bs.drop (k+1)).take (q - 1)=s:=by
   have h3:=congrArg (List.drop 1) hms
   rw [List.drop_take,← hcs,List.drop_drop,List.drop_succ_cons,List.drop_zero] at h3
   exact h3
  rw [h2] at h1
  exact h1
 have hL:(bs.drop k1).length=bs.length - k1:=by simp
 have hU4:∀w',Ext w2 w'→Sl w'.heap Ai (AP p c (k+1) 1) (c - (k+1)) s:=fun w' h=>hS.ext h
 have hpar:∃n b,∀w',Ctr Tryz.prog 35 [.string (Af s)] w' (fun r w''=>r=.tuple #[.int .i64 n,.bool b]∧Ext w' w''):=by
  by_cases hn:∃n,Cq (Af s) n
  ·obtain ⟨n,hn⟩:=hn
   exact ⟨n,true,fun w'=>EJ hn⟩
  ·exact ⟨0,false,fun w'=>SA (fun n h=>hn ⟨n,h⟩)⟩
 by_cases m0:m=43
 ·have hmm:(m.toNat:Int)=43:=by rw [m0];rfl
  obtain ⟨pn,pb,hpar⟩:=hpar
  repeat' (first|refine R1 ?_|(refine Q1 ?_;first|(refine Q10 T.s40 hok (q:=e) ?_)|(refine Q9 (q:=e) (e:=Ai) (hu:=T.p5) (hs:=hC2) (hq:=hx) ?_)|(refine Q10 T.s40 hok (q:=e+1) ?_)|(refine Q9 (q:=e+1) (e:=Ai) (hu:=T.p5) (hs:=hC2) (hq:=hy) ?_)|(refine Q29 T.s40 (q:=k+1) (r:=e) ?_)|(refine Q30 T.s40 T.i5 T.str9 (bs:=s) (hs:=hS) ?_)|(refine Q4 (f:=35) (hc:=(hpar _)) ?_;rintro _ w3 ⟨rfl,hx3⟩;refine Kc ?_;replace hA2:=hA2.ext (Kx hx3))|(refine Q10 T.s40 hok (q:=k) ?_)|(refine Q9 (q:=k) (e:=Ai) (hu:=T.p5) (hs:=(hC2.ext Kz)) (hq:=hm) ?_)|(refine Q20 (.agg (Aq.enc (Av 0 (Af s) 0)).toArray) (Nr _ _) ?_)|(refine Q6 (hu:=T.s40) ?_))|refine R2 ?_|(apply Za;exact rfl;all_goals (intro h;try (exfalso;omega)))|((fail_if_success (refine Q1 ?_));apply Zb;exact rfl;exact rfl;all_goals (intro h;try (exfalso;omega)))|fail)
  have l63:=hA2.lt
  refine Q1 ?_;refine Q7 T.zero33 ?_;intro a13 w4 ha13 hA13 hx4 hs4
  replace hA2:=hA2.ext hx4
  skip
  refine Q1 ?_;refine Q5 T.z33 hA13 ?_;intro w5 hA5 hg5 hs5
  replace hA5:Blk w5.heap a13 33 (Aq.enc (Av 0 (Af s) 0)):=hA5
  have hx25:Ext w2 w5:=(show Ext w2 w4 from Kz).own hg5 (fun q hq=>by injection hq with hq;have:=hx3.size;omega)
  replace hA2:=hA2.grown hg5 (fun e=>by injection e;omega)
  cases hnb:EU (Af s) with
  | true =>
   have hrr:=fun w'=>Gz (w:=w') (.inl rfl) (by omega) hnb
   repeat' (first|refine R1 ?_|(refine Q1 ?_;first|(refine Q10 T.s40 hok (q:=k) ?_)|(refine Q9 (q:=k) (e:=Ai) (hu:=T.p5) (hs:=(hC2.ext Kz)) (hq:=hm) ?_)|(refine Q4 (f:=36) (hc:=hrr _) ?_;rintro _ w6 ⟨rfl,hx6⟩;refine Kc ?_;replace hA2:=hA2.ext (Kx hx6);replace hA5:=hA5.ext (Kx hx6))|refine Q11 T.a33 ?_)|refine R2 ?_|(apply Za;exact rfl;all_goals (intro h;try (exfalso;omega)))|fail)
   refine Q1 ?_;refine Q5 T.z33 hA2 ?_;intro wf hAf hgf hsf
   replace hAf:Blk wf.heap a6 33 (Aq.enc (Av 0 (Af s) 0)):=hAf
   have xf:Ext w wf:=(show Ext w w6 from Kz).own hgf (fun q hq=>by injection hq with hq;omega)
   repeat' (first|refine R1 ?_|refine R2 ?_|fail)
   refine Ze Tryz.results20 ⟨_,_,_,rfl,rfl,Ae T.a33 (by assumption) rfl,_,_,rfl,rfl,rfl⟩ ?_
   refine ⟨xf,.inl ⟨.mk 0 (Af s) 0 [],s.length+3,Av 0 (Af s) 0,?_,(by rw [← hk1,hk1e];rfl),Gs (by omega) VK⟩⟩
   rw [hcs]
   exact DW (((CJ hcd hce).1 ((EG (by rw [m0];decide)).2 hnb)).trans (by unfold BS;rw [if_pos m0]))
  | false =>
   exact absurd ((CJ hcd hce).2 (fun h=>by rw [(EG (by rw [m0];decide)).1 h] at hnb;cases hnb)) hgd
 have hm0:¬(m.toNat:Int)=43:=FM m0
 by_cases m1:m=45
 ·have hmm:(m.toNat:Int)=45:=by rw [m1];rfl
  obtain ⟨pn,pb,hpar⟩:=hpar
  repeat' (first|refine R1 ?_|(refine Q1 ?_;first|(refine Q10 T.s40 hok (q:=e) ?_)|(refine Q9 (q:=e) (e:=Ai) (hu:=T.p5) (hs:=hC2) (hq:=hx) ?_)|(refine Q10 T.s40 hok (q:=e+1) ?_)|(refine Q9 (q:=e+1) (e:=Ai) (hu:=T.p5) (hs:=hC2) (hq:=hy) ?_)|(refine Q29 T.s40 (q:=k+1) (r:=e) ?_)|(refine Q30 T.s40 T.i5 T.str9 (bs:=s) (hs:=hS) ?_)|(refine Q4 (f:=35) (hc:=(hpar _)) ?_;rintro _ w3 ⟨rfl,hx3⟩;refine Kc ?_;replace hA2:=hA2.ext (Kx hx3))|(refine Q10 T.s40 hok (q:=k) ?_)|(refine Q9 (q:=k) (e:=Ai) (hu:=T.p5) (hs:=(hC2.ext Kz)) (hq:=hm) ?_)|(refine Q20 (.agg (Aq.enc (Av 0 (Af s) 0)).toArray) (Nr _ _) ?_)|(refine Q6 (hu:=T.s40) ?_))|refine R2 ?_|(apply Za;exact rfl;all_goals (intro h;try (exfalso;omega)))|((fail_if_success (refine Q1 ?_));apply Zb;exact rfl;exact rfl;all_goals (intro h;try (exfalso;omega)))|fail)
  have l63:=hA2.lt
  refine Q1 ?_;refine Q7 T.zero33 ?_;intro a13 w4 ha13 hA13 hx4 hs4
  replace hA2:=hA2.ext hx4
  skip
  refine Q1 ?_;refine Q5 T.z33 hA13 ?_;intro w5 hA5 hg5 hs5
  replace hA5:Blk w5.heap a13 33 (Aq.enc (Av 0 (Af s) 0)):=hA5
  have hx25:Ext w2 w5:=(show Ext w2 w4 from Kz).own hg5 (fun q hq=>by injection hq with hq;have:=hx3.size;omega)
  replace hA2:=hA2.grown hg5 (fun e=>by injection e;omega)
  repeat' (first|refine R1 ?_|(refine Q1 ?_;first|(refine Q10 T.s40 hok (q:=k) ?_)|(refine Q9 (q:=k) (e:=Ai) (hu:=T.p5) (hs:=(hC2.ext Kz)) (hq:=hm) ?_)|(refine Q2 (hu:=T.f33_0) ?_))|refine R2 ?_|(apply Za;exact rfl;all_goals (intro h;try (exfalso;omega)))|fail)
  refine Q1 ?_;refine Q5 T.z3 hA5 ?_;intro w7 hA7 hg7 hs7
  replace hA7:Blk w7.heap a13 33 (Aq.enc (Av 1 (Af s) 0)):=hA7
  replace hx25:Ext w2 w7:=hx25.own hg7 (fun q hq=>by injection hq with hq;have:=hx3.size;omega)
  replace hA2:=hA2.grown hg7 (fun e=>by injection e;omega)
  cases hnb:EU (Af s) with
  | true =>
   have hrr:=fun w'=>Gz (w:=w') (.inr rfl) (by omega) hnb
   repeat' (first|refine R1 ?_|(refine Q1 ?_;first|(refine Q4 (f:=36) (hc:=hrr _) ?_;rintro _ w6 ⟨rfl,hx6⟩;refine Kc ?_;replace hA2:=hA2.ext (Kx hx6);replace hA7:=hA7.ext (Kx hx6))|refine Q11 T.a33 ?_)|refine R2 ?_|fail)
   refine Q1 ?_;refine Q5 T.z33 hA2 ?_;intro wf hAf hgf hsf
   replace hAf:Blk wf.heap a6 33 (Aq.enc (Av 1 (Af s) 0)):=hAf
   have xf:Ext w wf:=(show Ext w w6 from Kz).own hgf (fun q hq=>by injection hq with hq;omega)
   repeat' (first|refine R1 ?_|refine R2 ?_|fail)
   refine Ze Tryz.results20 ⟨_,_,_,rfl,rfl,Ae T.a33 (by assumption) rfl,_,_,rfl,rfl,rfl⟩ ?_
   refine ⟨xf,.inl ⟨.mk 1 (Af s) 0 [],s.length+3,Av 1 (Af s) 0,?_,(by rw [← hk1,hk1e];rfl),Gs (by omega) VK⟩⟩
   rw [hcs]
   exact DW (((CJ hcd hce).1 ((EG (by rw [m1];decide)).2 hnb)).trans (by unfold BS;rw [if_neg m0,if_pos m1]))
  | false =>
   exact absurd ((CJ hcd hce).2 (fun h=>by rw [(EG (by rw [m1];decide)).1 h] at hnb;cases hnb)) hgd
 have hm1:¬(m.toNat:Int)=45:=FM m1
 clear hpar
 by_cases hnn:∃n,Cq (Af s) n
 rotate_left
 ·have hnn':∀n,¬Cq (Af s) n:=fun n hn=>hnn ⟨n,hn⟩
  have hno:Bt cs=.none:=LH hcd hce (fun _=>by unfold BS;rw [if_neg m0,if_neg m1,Kq hnn'])
  have hnm:¬Af s=⟨#[45,49]⟩:=fun h=>hnn' _ (Wm h)
  exact absurd hno hgd
 obtain ⟨n,hIs⟩:=hnn
 have hfn:=hIs.1
 unfold AC at hfn
 have hnum:=FW hIs
 have hm1n:=XG n hIs
 by_cases m2:m=58
 ·have hmm:(m.toNat:Int)=58:=by rw [m2];rfl
  have hpl:Plain m s:=LW (by rw [m2];decide) hIs
  repeat' (first|refine R1 ?_|(refine Q1 ?_;first|(refine Q10 T.s40 hok (q:=e) ?_)|(refine Q9 (q:=e) (e:=Ai) (hu:=T.p5) (hs:=hC2) (hq:=hx) ?_)|(refine Q10 T.s40 hok (q:=e+1) ?_)|(refine Q9 (q:=e+1) (e:=Ai) (hu:=T.p5) (hs:=hC2) (hq:=hy) ?_)|(refine Q29 T.s40 (q:=k+1) (r:=e) ?_)|(refine Q30 T.s40 T.i5 T.str9 (bs:=s) (hs:=hS) ?_)|(refine Q4 (f:=35) (hc:=(EJ hIs)) ?_;rintro _ w3 ⟨rfl,hx3⟩;refine Kc ?_;replace hA2:=hA2.ext (Kx hx3))|(refine Q10 T.s40 hok (q:=k) ?_)|(refine Q9 (q:=k) (e:=Ai) (hu:=T.p5) (hs:=(hC2.ext Kz)) (hq:=hm) ?_)|(refine Q20 (.agg (Aq.enc (Av 2 ⟨#[]⟩ n)).toArray) (bldKN _ _) ?_)|(refine Q6 (hu:=T.s40) ?_))|refine R2 ?_|(apply Za;exact rfl;all_goals (intro h;try (exfalso;omega)))|((fail_if_success (refine Q1 ?_));apply Zb;exact rfl;exact rfl;all_goals (intro h;try (exfalso;omega)))|fail)
  refine Q1 ?_;refine Q5 T.z33 hA2 ?_;intro wf hAf hgf hsf
  replace hAf:Blk wf.heap a6 33 (Aq.enc (Av 2 ⟨#[]⟩ n)):=hAf
  have xf:Ext w wf:=(show Ext w w3 from Kz).own hgf (fun q hq=>by injection hq with hq;omega)
  repeat' (first|refine R1 ?_|refine R2 ?_|fail)
  refine Ze Tryz.results20 ⟨_,_,_,rfl,rfl,Ae T.a33 (by assumption) rfl,_,_,rfl,rfl,rfl⟩ ?_
  refine ⟨xf,.inl ⟨.mk 2 ⟨#[]⟩ n [],s.length+3,Av 2 ⟨#[]⟩ n,?_,(by rw [← hk1,hk1e];rfl),Gs NZ hfn⟩⟩
  rw [hcs]
  exact DW (((CJ hcd hce).1 hpl).trans (by unfold BS;rw [if_neg m0,if_neg m1,hnum];simp only;rw [if_pos m2]))
 have hm2:¬(m.toNat:Int)=58:=FM m2
 by_cases m3:m=36
 ·have hmm:(m.toNat:Int)=36:=by rw [m3];rfl
  have hpl:Plain m s:=LW (by rw [m3];decide) hIs
  have hrd:=(CJ hcd hce).1 hpl
  by_cases hn1:n = -1
  ·have hm1y:=hm1n.2 hn1
   repeat' (first|refine R1 ?_|(refine Q1 ?_;first|(refine Q10 T.s40 hok (q:=e) ?_)|(refine Q9 (q:=e) (e:=Ai) (hu:=T.p5) (hs:=hC2) (hq:=hx) ?_)|(refine Q10 T.s40 hok (q:=e+1) ?_)|(refine Q9 (q:=e+1) (e:=Ai) (hu:=T.p5) (hs:=hC2) (hq:=hy) ?_)|(refine Q29 T.s40 (q:=k+1) (r:=e) ?_)|(refine Q30 T.s40 T.i5 T.str9 (bs:=s) (hs:=hS) ?_)|(refine Q4 (f:=35) (hc:=(EJ hIs)) ?_;rintro _ w3 ⟨rfl,hx3⟩;refine Kc ?_;replace hA2:=hA2.ext (Kx hx3))|(refine Q10 T.s40 hok (q:=k) ?_)|(refine Q9 (q:=k) (e:=Ai) (hu:=T.p5) (hs:=(hC2.ext Kz)) (hq:=hm) ?_)|(refine Q20 (.agg (Aq.enc (Av 4 ⟨#[]⟩ 0)).toArray) (bldK _) ?_)|(refine Q35 (he:=hm1y) ?_)|(refine Q6 (hu:=T.s40) ?_))|refine R2 ?_|(apply Za;exact rfl;all_goals (intro h;try (exfalso;omega)))|((fail_if_success (refine Q1 ?_));apply Zb;exact rfl;exact rfl;all_goals (intro h;try (exfalso;omega)))|fail)
   refine Q1 ?_;refine Q5 T.z33 hA2 ?_;intro wf hAf hgf hsf
   replace hAf:Blk wf.heap a6 33 (Aq.enc (Av 4 ⟨#[]⟩ 0)):=hAf
   have xf:Ext w wf:=(show Ext w w3 from Kz).own hgf (fun q hq=>by injection hq with hq;omega)
   repeat' (first|refine R1 ?_|refine R2 ?_|fail)
   refine Ze Tryz.results20 ⟨_,_,_,rfl,rfl,Ae T.a33 (by assumption) rfl,_,_,rfl,rfl,rfl⟩ ?_
   refine ⟨xf,.inl ⟨.mk 4 ⟨#[]⟩ 0 [],s.length+3,Av 4 ⟨#[]⟩ 0,?_,(by rw [← hk1,hk1e];rfl),Gs NZ VK⟩⟩
   rw [hcs]
   exact DW (hrd.trans (by unfold BS;rw [if_neg m0,if_neg m1,hnum];simp only;rw [if_neg m2,if_pos m3,if_pos hn1]))
  ·have hm1x:¬Af s=⟨#[45,49]⟩:=fun h=>hn1 (hm1n.1 h)
   have hbad:¬(0≤n∧n≤((bs.drop k1).length:Int)∧((bs.drop k1).drop n.toNat).take 2=[13,10])→Bt cs=.none:=fun h=>hrd.trans (by unfold BS;rw [if_neg m0,if_neg m1,hnum];simp only;rw [if_neg m2,if_pos m3,if_neg hn1,if_neg h])
   by_cases hin:0≤n∧n≤(bs.length:Int)∧(k1:Int)+n+2≤bs.length
   rotate_left
   ·have hno:Bt cs=.none:=hbad (fun h=>hin (by
     have h1:=congrArg List.length h.2.2
     simp only [List.length_take,List.length_drop,List.length_cons,List.length_nil] at h1
     omega))
    exact absurd hno hgd
   obtain ⟨u,hu⟩:∃u:Nat,n=(u:Int):=⟨n.toNat,by omega⟩
   subst hu
   obtain ⟨x2,hx2'⟩:=Aj (xs:=bs) (k:=k1+u) (by omega)
   obtain ⟨y2,hy2'⟩:=Aj (xs:=bs) (k:=k1+u+1) (by omega)
   have hdu:((bs.drop k1).drop ((u:Int)).toNat).take 2=[x2,y2]:=by
    rw [Int.toNat_natCast,List.drop_drop,drop_at hx2',drop_at hy2'];rfl
   by_cases hp2:x2=13∧y2=10
   ·have hx2i:(x2.toNat:Int)=13:=by rw [hp2.1];rfl
    have hy2i:(y2.toNat:Int)=10:=by rw [hp2.2];rfl
    have hok2:0≤(u:Int)∧(u:Int)≤((bs.drop k1).length:Int)∧((bs.drop k1).drop ((u:Int)).toNat).take 2=[13,10]:=⟨by omega,by omega,by rw [hdu,hp2.1,hp2.2]⟩
    have hS2:Sl w2.heap Ai (AP p c k1 1) (c - k1) ((bs.drop k1).take u):=(hC2.drop (l:=k1) (by omega)).take u
    have hsz:(Af ((bs.drop k1).take u)).size=u:=by rw [BR,List.length_take];omega
    repeat' (first|refine R1 ?_|(refine Q1 ?_;first|(refine Q10 T.s40 hok (q:=e) ?_)|(refine Q9 (q:=e) (e:=Ai) (hu:=T.p5) (hs:=hC2) (hq:=hx) ?_)|(refine Q10 T.s40 hok (q:=e+1) ?_)|(refine Q9 (q:=e+1) (e:=Ai) (hu:=T.p5) (hs:=hC2) (hq:=hy) ?_)|(refine Q29 T.s40 (q:=k+1) (r:=e) ?_)|(refine Q30 T.s40 T.i5 T.str9 (bs:=s) (hs:=hS) ?_)|(refine Q4 (f:=35) (hc:=(EJ hIs)) ?_;rintro _ w3 ⟨rfl,hx3⟩;refine Kc ?_;replace hA2:=hA2.ext (Kx hx3))|(refine Q10 T.s40 hok (q:=k) ?_)|(refine Q9 (q:=k) (e:=Ai) (hu:=T.p5) (hs:=(hC2.ext Kz)) (hq:=hm) ?_)|(refine Q10 T.s40 hok (q:=k1+u) ?_)|(refine Q9 (q:=k1+u) (e:=Ai) (hu:=T.p5) (hs:=(hC2.ext Kz)) (hq:=hx2') ?_)|(refine Q10 T.s40 hok (q:=k1+u+1) ?_)|(refine Q9 (q:=k1+u+1) (e:=Ai) (hu:=T.p5) (hs:=(hC2.ext Kz)) (hq:=hy2') ?_)|(refine Q29 T.s40 (q:=k1) (r:=k1+u) (hj:=by omega) ?_)|(refine Q30 T.s40 T.i5 T.str9 (bs:=(bs.drop k1).take u) (hm:=by (rw [List.length_take];omega)) (hs:=hS2.ext Kz) ?_)|(refine Q20 (.agg (Aq.enc (Av 3 (Af ((bs.drop k1).take u)) 0)).toArray) (Nr _ _) ?_)|(refine Q32 (he:=hm1x) ?_)|(refine Q6 (hu:=T.s40) ?_))|refine R2 ?_|(apply Za;exact rfl;all_goals (intro h;try (exfalso;omega)))|((fail_if_success (refine Q1 ?_));apply Zb;exact rfl;exact rfl;all_goals (intro h;try (exfalso;omega)))|fail)
    all_goals try (exfalso;omega)
    refine Q1 ?_;refine Q5 T.z33 hA2 ?_;intro wf hAf hgf hsf
    replace hAf:Blk wf.heap a6 33 (Aq.enc (Av 3 (Af ((bs.drop k1).take u)) 0)):=hAf
    have xf:Ext w wf:=(show Ext w w3 from Kz).own hgf (fun q hq=>by injection hq with hq;omega)
    repeat' (first|refine R1 ?_|refine R2 ?_|fail)
    refine Ze Tryz.results20 ⟨_,_,_,rfl,rfl,Ae T.a33 (by assumption) rfl,_,_,rfl,rfl,rfl⟩ ?_
    refine ⟨xf,.inl ⟨.mk 3 (Af ((bs.drop k1).take u)) 0 [],s.length+3+u+2,Av 3 (Af ((bs.drop k1).take u)) 0,?_,?_,Gs (by omega) VK⟩⟩
    ·rw [hcs]
     exact DW (hrd.trans (by unfold BS;rw [if_neg m0,if_neg m1,hnum];simp only;rw [if_neg m2,if_pos m3,if_neg hn1,if_pos hok2,Int.toNat_natCast]))
    ·rw [show ((k+(s.length+3+u+2):Nat):Int)=(e:Int)+2+(u:Int)+2 by omega]
     rfl
   ·have hno:Bt cs=.none:=hbad (fun h=>hp2 (by
     rw [hdu] at h
     simp only [List.cons.injEq,and_true] at h
     exact h.2.2))
    have hxy:¬(x2.toNat:Int)=13∨¬(y2.toNat:Int)=10:=by
     by_cases h1:x2=13
     ·exact .inr (FM (c:=10) (fun h2=>hp2 ⟨h1,h2⟩))
     ·exact .inl (FM (c:=13) h1)
    exact absurd hno hgd
 have hm3:¬(m.toNat:Int)=36:=FM m3
 by_cases m4:m=42
 ·exact absurd m4 (h42 m hm)
 ·have hno:Bt cs=.none:=LH hcd hce (fun _=>by unfold BS;rw [if_neg m0,if_neg m1,hnum];simp only;rw [if_neg m2,if_neg m3,if_neg (fun h=>m4 h.1)])
  exact absurd hno hgd
variable {l : List Oper}
variable {d : Option Nat} {g : Option (Nat × Bool)} {t t' : TypeId} {u : ByteArray}
theorem Q88 {a:List UInt8} {b:List UInt8} (h:G P n ops dr l (E.put d (.string (Af (a++b)))) w K) (hx:E.look x=some (.string s):=by exact rfl) (hy:E.look y=some (.string u):=by exact rfl) (ha:s=Af a) (hb:u=Af b) (hl:a.length+b.length≤9223372036854775807:=by (simp only [List.length_append,List.length_cons,List.length_nil];omega)) (hd:Ah n d=true:=by exact rfl):G1 P n ops dr ⟨d,.binOp .add t x y t',ty,pos,af,g⟩ l E w K:=by
 subst ha hb
 exact ZaT hx hy (by rw [Di,Di];simpa [Af] using hl) hd (by rw [Si];exact h)
structure Ni (w0 w:World) (B a:Nat) (p:Option Addr) (c:Nat) (bs:List UInt8):Prop where
 ext:Ext w0 w
 box:Blk w.heap a 40 [.slice p bs.length c]
 own:Go.V.Own w B 5 Ai p c bs
 h0:w0.heap.size≤a
 h1:a<B
 hB:B≤w.heap.size
theorem Ni.xt {w0 w w':World} {B a c:Nat} {p:Option Addr} {bs:List UInt8} (h:Ni w0 w B a p c bs) (hx:Ext w w'):Ni w0 w' B a p c bs :=
 ⟨h.ext.trans hx,h.box.ext hx,h.own.ext hx,h.h0,h.h1,Nat.le_trans h.hB hx.size⟩
theorem Ni.bx {w0 w w1:World} {B a c c':Nat} {p p':Option Addr} {bs bs':List UInt8} (h:Ni w0 w B a p c bs) (ha:App w w1 B 5 Ai p p' c' bs'):Blk w1.heap a 40 [.slice p bs.length c] :=
 h.box.grown ha.grown (fun e=>by have:=(h.own.ge a e).1;have:=h.h1;omega)
theorem Ni.app {w0 w w1 w2:World} {B a c c':Nat} {p p':Option Addr} {bs bs':List UInt8} (h:Ni w0 w B a p c bs) (ha:App w w1 B 5 Ai p p' c' bs') (hb:Blk w2.heap a 40 [.slice p' bs'.length c']) (hg:w1.grownBy w2 (some a)):Ni w0 w2 B a p' c' bs':=by
 have hge:=h.own.ge
 have hge1:=ha.own.ge
 have h0:=h.h0
 have h1:=h.h1
 have e1:Ext w0 w1:=h.ext.app ha (fun k hk=>by have:=(hge k hk).1;omega)
 exact ⟨e1.own hg (fun k hk=>by injection hk with hk;omega),hb,ha.own.kept hg (fun a' ha' e=>by injection e with e;have:=(hge1 a'.block (by rw [ha'];rfl)).1;omega),h0,h1,Nat.le_trans ha.base hg.size⟩
theorem Wp {l:List ByteArray} {i:Nat} {x:ByteArray} (h:l[i]?=some x):DV l.length++(l.take (i+1)).flatMap prW=DV l.length++(l.take i).flatMap prW++((36 :: dec x.size)++[13,10])++bytesOf x++[13,10]:=by
 rw [AJ h,List.flatMap_append]
 simp [prW]
theorem PS {l:List ByteArray} (hl:l.length≤128):∀{i:Nat},(∀w∈l.take i,w.size≤4096)→(DV l.length++(l.take i).flatMap prW).length≤1000000:=by
 intro i h
 have key:∀l:List ByteArray,(∀w∈l,w.size≤4096)→(l.flatMap prW).length≤l.length * 6000:=by
  intro l
  induction l with
  | nil=>intro _;simp
  | cons w l ih =>
   intro h
   have h1:=ih (fun x hx=>h x (by simp [hx]))
   have h2:=h w (by simp)
   have h3:=Ee (n:=w.size) (by omega)
   rw [List.flatMap_cons,List.length_append,List.length_cons]
   have h4:(prW w).length=(dec w.size).length+5+w.size:=by unfold prW;simp [Fy];omega
   omega
 have h1:=key _ h
 have h2:=Ee (n:=l.length) (by omega)
 have h3:(l.take i).length≤128:=by rw [List.length_take];omega
 unfold DV
 simp only [List.length_append,List.length_cons,List.length_nil]
 omega
theorem Uz {l:List ByteArray} (h:FE l):prC l=prB l:=if_pos h
theorem PR {l:List ByteArray} (h:¬FE l):prC l=[]:=if_neg h
theorem IP {q:Option Addr} {d:Nat} {l:List ByteArray} {w:World} (hS:Sl w.heap Ar q d l) :
  Ctr Tryz.prog 19 [.slice q l.length d] w (fun v w'=>Ext w w'∧v=.string (Af (prC l))):=by
 have hsb:=hS.bound
 have hok:=hS.ok
 refine Ac Tryz.func19 Tryz.ntmps19 rfl rfl rfl ?_
 by_cases h0:l.length=0
 ·have hn:¬FE l:=fun h=>h.pos (List.eq_nil_of_length_eq_zero h0)
  repeat' (first|refine R1 ?_|(refine Q1 ?_;(refine Q6 (hu:=T.s61) ?_))|refine R2 ?_|((fail_if_success (refine Q1 ?_));apply Zb;exact rfl;exact rfl;all_goals (intro h;try (exfalso;omega)))|fail)
  all_goals try (exfalso;omega)
  all_goals
   refine Kr Tryz.results19 ?_
   rw [PR hn]
   exact ⟨Kz,rfl⟩
 by_cases h128:128<l.length
 ·have hn:¬FE l:=fun h=>by have:=h.len;omega
  repeat' (first|refine R1 ?_|(refine Q1 ?_;(refine Q6 (hu:=T.s61) ?_))|refine R2 ?_|(apply Za;exact rfl;all_goals (intro h;try (exfalso;omega)))|((fail_if_success (refine Q1 ?_));apply Zb;exact rfl;exact rfl;all_goals (intro h;try (exfalso;omega)))|fail)
  all_goals try (exfalso;omega)
  all_goals
   refine Kr Tryz.results19 ?_
   rw [PR hn]
   exact ⟨Kz,rfl⟩
 have hss:(CK (l.length:Int)).size=(dec l.length).length:=by rw [QE];rfl
 have hsl:(CK (l.length:Int)).data.toList=dec l.length:=Uf _
 have hdl:=Ee (n:=l.length) (by omega)
 have eS:(⟨#[42]⟩:ByteArray)=Af [42]:=rfl
 have eC:(⟨#[13,10]⟩:ByteArray)=Af [13,10]:=rfl
 have eD:(⟨#[36]⟩:ByteArray)=Af [36]:=rfl
 have eI:∀n:Nat,CK (n:Int)=Af (dec n):=fun n=>rfl
 repeat' (first|refine R1 ?_|(refine Q1 ?_;first|(refine Q4 (f:=11) (hc:=Ck (by unfold AC;omega)) ?_;rintro _ w3 ⟨rfl,hx3⟩;refine Kc ?_)|(refine Q88 (ha:=by (first|exact eS|exact eC|exact eI _|exact rfl)) (hb:=by (first|exact eS|exact eC|exact eI _|exact rfl)) ?_)|(refine Q6 (hu:=T.s61) ?_))|refine R2 ?_|(apply Za;exact rfl;all_goals (intro h;try (exfalso;omega)))|((fail_if_success (refine Q1 ?_));apply Zb;exact rfl;exact rfl;all_goals (intro h;try (exfalso;omega)))|fail)
 all_goals try (exfalso;omega)
 all_goals
  refine Zh (ι:=Nat) (fun y=>[(0,.slice q l.length d),(3,.string (Af (DV l.length++(l.take y).flatMap prW))),(4,.int .i64 (y:Int))])
   (fun y w'=>Ext w w'∧y≤l.length∧∀x∈l.take y,x.size≤4096) (fun y=>l.length - y) 0 ⟨rfl,by simp [DV];rfl,rfl,trivial⟩ ⟨Kz,Nat.zero_le _,by simp⟩ ?_
  rintro i w5 ⟨hx5,hi,hsm⟩
  refine Zn [(0,.slice q l.length d),(3,.string (Af (DV l.length++(l.take i).flatMap prW))),(4,.int .i64 (i:Int))] ⟨rfl,rfl,rfl,trivial⟩ ?_
  have hlen5:=PS (l:=l) (by omega) hsm
  obtain ⟨bs,hbs⟩:∃bs,DV l.length++(l.take i).flatMap prW=bs:=⟨_,rfl⟩
  rw [hbs] at hlen5 ⊢
  have hS5:=hS.ext hx5
  by_cases hlt:i<l.length
  ·obtain ⟨x,hx⟩:=Aj hlt
   by_cases hxl:x.size≤4096
   ·have hd6:=Ee (n:=x.size) (by omega)
    have hsx:(bytesOf x).length=x.size:=Fy x
    have eX:x=Af (bytesOf x):=(NT x).symm
    repeat' (first|refine R1 ?_|(refine Q1 ?_;first|(refine Q10 T.s61 hok (q:=i) (hj:=rfl) (h1:=hlt) ?_)|(refine Q9 (q:=i) (e:=Ar) (hu:=T.p9) (hs:=hS5.ext Kz) (hq:=hx) ?_)|(refine Q4 (f:=11) (hc:=Ck (by unfold AC;omega)) ?_;rintro _ w6 ⟨rfl,hx6⟩;refine Kc ?_)|(refine Q88 (ha:=by (first|exact eD|exact eC|exact eI _|exact rfl)) (hb:=by (first|exact eD|exact eC|exact eI _|exact eX)) ?_)|(refine Q6 (hu:=T.s61) ?_)|refine Q17 T.str9 ?_)|refine R2 ?_|(apply Za;exact rfl;all_goals (intro h;try (exfalso;omega)))|refine Zf 1 [] [0,1,2,3,4,5,6,10,11,12,13,7,8,9,14,15,16] mixed (by decide +kernel) ?_|fail)
    all_goals try (exfalso;omega)
    all_goals
     refine Zc (i+1) ⟨rfl,?_,rfl,trivial⟩ ⟨Kz,hlt,fun y hy=>?_⟩ (by omega)
     ·rw [Wp hx,hbs]
      show some (Value.string (Af _))=_
      congr 3
      simp
     ·simp only [AJ hx] at hy
      rcases List.mem_append.1 hy with hy|hy
      ·exact hsm y hy
      ·rw [List.mem_singleton.1 hy];exact hxl
   ·have hn:¬FE l:=fun h=>hxl (h.words x (List.mem_of_getElem? hx))
    repeat' (first|refine R1 ?_|(refine Q1 ?_;first|(refine Q10 T.s61 hok (q:=i) (hj:=rfl) (h1:=hlt) ?_)|(refine Q9 (q:=i) (e:=Ar) (hu:=T.p9) (hs:=hS5.ext Kz) (hq:=hx) ?_)|(refine Q6 (hu:=T.s61) ?_)|refine Q17 T.str9 ?_)|refine R2 ?_|(apply Za;exact rfl;all_goals (intro h;try (exfalso;omega)))|fail)
    all_goals try (exfalso;omega)
    all_goals
     refine Kr Tryz.results19 ?_
     rw [PR hn]
     exact ⟨Kz,rfl⟩
  ·have hil:i=l.length:=by omega
   have hpo:FE l:=⟨fun e=>h0 (by rw [e];rfl),by omega,by rw [hil,List.take_of_length_le (Nat.le_refl _)] at hsm;exact hsm⟩
   rw [hil,List.take_of_length_le (Nat.le_refl _)] at hbs
   repeat' (first|refine R1 ?_|(refine Q1 ?_;(refine Q6 (hu:=T.s61) ?_))|refine R2 ?_|(apply Za;exact rfl;all_goals (intro h;try (exfalso;omega)))|fail)
   all_goals try (exfalso;omega)
   all_goals
    refine Kr Tryz.results19 ?_
    rw [Uz hpo]
    have hbs':prB l=bs:=hbs
    rw [hbs']
    exact ⟨Kz,rfl⟩
end Go.Proofs.YtkcolpfanmdmiaaGreatDoor
namespace Go.V
variable {l : List Oper}
variable {d : Option Nat} {g : Option (Nat × Bool)} {t : TypeId} {q : Nat}
theorem Q41 {v0:Value} {v:Value} (hx:E.look x=some v0) (h:G P n ops dr l (E.put d v) w K) (hr:∀w,(Instr.field t v0 q).run P w=.ok v w:=by exact rfl) (hd:Ah n d=true:=by exact rfl):G1 P n ops dr ⟨d,.field t x q,ty,pos,af,g⟩ l E w K :=
 Zd v hd (fun a ha w' _=>by simp [execOp,ha.eval hx,hr]) h
end Go.V
namespace Go.Proofs.YtkcolpfanmdmiaaGreatDoor
open Go.V Go.RowKit Go.Conc
theorem Ct.mono {g:Nat→Nat} {w:World} {x:Cn} {n n':Nat} {outs:List UInt8} {q:Bool} (h:Ct g w x n outs q) (hn:n≤n'):Ct g w x n' outs q:=by
 obtain ⟨l,pi,ci,ins,po,co,k1,k2,k3,k4,k5⟩:=h.ex
 exact ⟨l,pi,ci,ins,po,co,k1,k2,k3,Nat.le_trans k4 (Nat.mul_le_mul_right _ hn),Nat.le_trans k5 (Nat.mul_le_mul_right _ hn)⟩
structure Cs (g:Nat→Nat) (w:World) (N0 n:Nat) (cs:List Cn) (ou:Nat→List UInt8):Prop where
 len:cs.length≤8
 one:∀i x,cs[i]?=some x→(∃q,Ct g w x n (ou i) q)∧AV g w x.b x.ss x.cl x.rd x.qc none 0 [] #[]∧x.b=100 * (i+1)∧N0≤x.rd
theorem Cs.stp {ix:Nat} {T:List Nat} {g g':Nat→Nat} {w w':World} {N0 n:Nat} {cs:List Cn} {ou:Nat→List UInt8} (h:Cs g w N0 n cs ou) (s:Stq ix T g g' w w') (hT:∀t∈T,t<100∨t % 100=4):Cs g' w' N0 n cs ou:=by
 refine ⟨h.len,fun i x hx=>?_⟩
 obtain ⟨⟨q,h1⟩,h2,h3,h4⟩:=h.one i x hx
 exact ⟨⟨q,h1.stp s (fun e=>by have:=hT _ e;omega) (fun e=>by have:=hT _ e;omega)⟩,h2.stp s (fun e=>by have:=hT _ e;omega) (fun e=>by have:=hT _ e;omega),h3,h4⟩
theorem Cs.ext {g:Nat→Nat} {w w':World} {N0 n:Nat} {cs:List Cn} {ou:Nat→List UInt8} (h:Cs g w N0 n cs ou) (hx:Ext w w') (u:Nat):Cs (rt g w u) w' N0 n cs ou:=h.stp (ix:=0) (T:=[]) (Stq.of_ext hx u) (fun t ht=>by cases ht)
theorem QB (r:Nk) (w:World):(Instr.field 89 (.agg (Gm.enc r).toArray) 2).run Tryz.prog w=.ok (.slice r.op r.ol r.oc) w:=by kernel_rfl
theorem WW (r:Bg) (w:World):(Instr.field 33 (.agg (Aq.enc r).toArray) 1).run Tryz.prog w=.ok (.string r.s) w:=by kernel_rfl
theorem Tw (k c:Int) (p:Option Addr) (n d:Nat) (w:World):(Instr.build 43 [(0,Value.int .i64 k),(1,Value.int .i64 c),(3,Value.slice p n d)].toArray).run Tryz.prog w=.ok (.agg #[.int .i64 k,.int .i64 c,.int .i64 0,.slice p n d,.slice none 0 0]) w:=by kernel_rfl
theorem Lj (k c:Int) (w:World):(Instr.build 43 [(0,Value.int .i64 k),(1,Value.int .i64 c)].toArray).run Tryz.prog w=.ok (.agg #[.int .i64 k,.int .i64 c,.int .i64 0,.slice none 0 0,.slice none 0 0]) w:=by kernel_rfl
variable {cs : List Cn} {x : Cn}
set_option maxRecDepth 20000 in
theorem OD (hH:Bk g w 9 hb 39 [.pointer (some (adr (bx sb) 0))]) (hV:Srv g w sb m kp dk slot log clk lasts cs n) (hC:∀i x,cs[i]?=some x→(∃q,Ct g w x n (ou i) q)∧∃po co out buf,AV g w x.b x.ss x.cl x.rd x.qc po co out buf) (hcs:cs.length≤8) (hi:cs[i]?=some x) (hn:n≤200) :
  Ctr Tryz.prog 34 [.pointer (some (adr (bx hb) 0)),.int .i64 (i:Int)] w (fun v w'=>∃r:Nk,v=.agg (Gm.enc r).toArray∧r.ol=(ou i).length∧Go.V.Own w' w.heap.size 5 Ai r.op r.oc (ou i)∧Ext w w'):=by
 have b1:=hH.blk
 have hlt:i<cs.length:=(List.getElem?_eq_some_iff.1 hi).1
 refine Ac Tryz.func34 Tryz.ntmps34 rfl rfl rfl ?_
 repeat' (refine R1 ?_)
 refine Q1 ?_;refine Q7 T.zero89 ?_;intro a4 w1 ha4 hA4 hx1 hs1
 have b2:=b1.ext hx1
 have hV1:=hV.ext hx1 0
 repeat' (first|refine R1 ?_|(refine Q1 ?_;first|(refine Q4 (f:=16) (hc:=Me hV1 (by omega) hn (fun i x hx=>by obtain ⟨⟨q,h1⟩,po,co,out,buf,h2⟩:=hC i x hx;exact ⟨⟨q,h1.ext hx1 0⟩,po,co,out,buf,h2.ext hx1 0⟩)) ?_;rintro _ w2 ⟨p2,c2,ws,rfl,hl2,hO2,hW2,hx2⟩;refine Kc ?_;replace hA4:=hA4.ext (Kx hx2))|(refine Q2 (hu:=T.f39_0) ?_)|(refine Q3 (hu:=T.p37) ?_)|(refine Q6 (hu:=T.s56) ?_)|refine Q13 T.s56 ?_)|refine R2 ?_|(apply Za;exact rfl;all_goals (intro h;try (exfalso;omega)))|fail)
 obtain ⟨r,hr1,hr2,hr3⟩:=hW2 i x hi hlt
 have hs2:=hO2.sl
 have hlt2:i<ws.length:=by omega
 repeat' (refine Q1 ?_;(refine Q14 T.a89 (q:=i) (e:=Gm) (hs:=hs2) (hq:=hr1) ?_))
 refine Q1 ?_;refine Q5 T.z89 hA4 ?_;intro w3 hA3 hg3 hs3
 replace hA3:Blk w3.heap a4 89 (Gm.enc r):=hA3
 repeat' (first|refine R1 ?_|refine R2 ?_|fail)
 refine Ze Tryz.results34 ⟨_,_,_,rfl,rfl,Ae T.a89 (by assumption) rfl,rfl⟩ ?_
 exact ⟨r,rfl,hr2,(hr3.kept hg3 (fun a ha e=>hr3.apartB hA4 (by decide) (by rw [ha];exact e.symm))).base (by have:=hx1.size;omega),(hx1.trans hx2).own hg3 (fun k hk=>by injection hk;omega)⟩
theorem Fw (bs:List UInt8):(Af bs).data.toList=bs:=by simp [Af]
theorem KD (bs:List UInt8):(Af bs).size=bs.length:=by
 show (Af bs).data.size=_
 rw [← Array.length_toList,Fw]
set_option maxRecDepth 20000 in
theorem Ve (hB:Bs W0 ix g w) (hT:Pow W0) (hE:CL W0) (hH:Bk g w 9 hb 39 [.pointer (some (adr (bx sb) 0))]) (hV:Srv g w sb m kp dk slot log clk lasts cs n) (hC:Cs g w W0.heap.size n cs ou) (hi:cs[i]?=some x) (hn:n≤190) (hl:FE l) (hU:∀t∈U,0<t∧(t<8∨t=x.b+4))
  (hst:∀R g1 w1 g2 w2,Ψ R g1 w1→Stq ix [0,8,x.b,x.b+1,x.b+2,x.b+3] g1 g2 w1 w2→Ψ R g2 w2) (hLf:∀R g1 w1,Ψ R g1 w1→Lf R)
  (hDo:∀g1 w1 q2 d2,Stq ix [8,x.b,x.b+1,x.b+2,x.b+3] g g1 w w1→SlT g1 w1 (x.b+3) Ar q2 d2 l→Ctr Tryz.prog 58 [.pointer (some (adr (bx x.cl) 0)),.slice q2 l.length d2] w1 (fun v w'=>∃R,v=.tuple #[.agg (Aq.enc R).toArray,.bool false]∧∃g',Stq ix U g1 g' w1 w'∧Ψ R g' w')) :
  Ctr Tryz.prog 18 [.pointer (some (adr (bx hb) 0)),.int .i64 (i:Int),.string (Af (prB l))] w (fun v w'=>∃R g' ou',v=.string (Af (Ed R))∧Stq ix (8 :: x.b :: (x.b+1) :: (x.b+2) :: (x.b+3) :: U) g g' w w'∧Bk g' w' 9 hb 39 [.pointer (some (adr (bx sb) 0))]∧Srv g' w' sb m kp dk slot log clk lasts cs (n+4)∧Cs g' w' W0.heap.size (n+4) cs ou'∧Ψ R g' w'):=by
 have hlen:(prB l).length≤1000000:=by
  have:=PT (l:=l) (by have:=hl.len;omega) (fun x hx=>by have:=hl.words x hx;omega)
  have:=hl.len
  omega
 obtain ⟨⟨q,hL⟩,hSe,hxb,hrd⟩:=hC.one i x hi
 have hcl:=hC.len
 have h8:8<x.b:=by omega
 have b1:=hH.blk
 have hU':∀t∈U,0<t∧(t<8∨x.b+3<t):=fun t ht=>by have:=hU t ht;omega
 refine Ac Tryz.func18 Tryz.ntmps18 rfl rfl rfl ?_
 repeat' (first|refine R1 ?_|(refine Q1 ?_;(refine Q4 (f:=34) (hc:=OD hH hV (fun i x hx=>⟨(hC.one i x hx).1,none,0,[],_,(hC.one i x hx).2.1⟩) hcl hi (by omega)) ?_;rintro _ w1 ⟨r1,rfl,hr1,hO1,hx1⟩;refine Kc ?_;replace b1:=b1.ext (Kx hx1)))|fail)
 repeat' (first|refine R1 ?_|(refine Q1 ?_;first|(refine Q41 rfl (hr:=QB _) ?_)|(refine Q2 (hu:=T.f39_0) ?_)|(refine Q3 (hu:=T.p37) ?_))|refine R2 ?_|fail)
 have hsz:(Af (prB l)).size≤100000000:=by rw [KD];omega
 refine Q1 ?_
 refine Q66 T.str9 T.s40 T.i5 (hl:=hsz) ?_
 intro b2 c2 w2 hbe2 hM2 hx2 hz2
 rw [Fw] at hM2
 rw [Fw]
 have hbge:w1.heap.size≤b2:=Nat.le_of_eq hbe2.symm
 have hS2:SlT (rt (rt g w 0) w1 0) w2 0 Ai (some ⟨b2,0,none⟩) c2 (prB l):=⟨hM2.sl,fun a ha=>by
  injection ha with ha
  subst ha
  obtain ⟨cur,fr,h1,_⟩:=hM2
  exact ⟨(Array.getElem?_eq_some_iff.1 h1).1,CU hbge,NoB.not ⟨cur,_,fr,h1,by unfold ixT;decide⟩⟩⟩
 repeat' (refine Q1 ?_;(apply Zi;exact rfl;exact Tw _ _ _ _ _;exact rfl))
 refine Q1 ?_
 refine Q12 Cr ⟨1,i,0,some ⟨b2,0,none⟩,(prB l).length,c2⟩ T.s67 ?_
 intro p3 w3 hp3 hs3 hb3 hx3 hz3
 have hx03:=(hx1.trans hx2).trans hx3
 have hX3:Stq ix [8,x.b,x.b+1,x.b+2,x.b+3] g (rt (rt (rt g w 0) w1 0) w2 0) w w3:=((Stq.of_ext hx1 0).trans (Stq.of_ext hx2 0)).trans (Stq.of_ext hx3 0)
 have hX3':Stq ix [] g (rt (rt (rt g w 0) w1 0) w2 0) w w3:=((Stq.of_ext hx1 0).trans (Stq.of_ext hx2 0)).trans (Stq.of_ext hx3 0)
 refine Q1 ?_;refine Q4 (hc:=VH (ix:=ix) (hB.stp hX3' (by simp)) hT hE (hV.stp hX3' (by simp)) hi (by omega) (hL.stp hX3' (by simp) (by simp)) (hSe.stp hX3' (by simp) (by simp)) h8 hrd (by omega) (hS2.ext hx3 0) hl hs3) ?_;rintro _ w4 ⟨rfl,g4,q4,q2,d2,hS4,hV4,hL4,hSe4,hW4⟩;refine Kc ?_
 repeat' (first|refine R1 ?_|refine R2 ?_|fail)
 refine Zm ?_
 have hH4:=(hH.stp hX3' (by simp)).stp hS4 (by simp;omega)
 have b4:=hH4.blk
 repeat' (first|refine R1 ?_|(refine Q1 ?_;first|(apply Zi;exact rfl;exact Lj _ _;exact rfl)|(refine Q2 (hu:=T.f39_0) ?_)|(refine Q3 (hu:=T.p37) ?_))|refine R2 ?_|fail)
 refine Q1 ?_
 refine Q12 Cr ⟨2,i,0,none,0,0⟩ T.s67 ?_
 intro p5 w5 hp5 hs5 hb5 hx5 hz5
 have hX5:Stq ix [8,x.b,x.b+1,x.b+2,x.b+3] g (rt g4 w4 0) w w5:=(hX3.trans hS4).trans (Stq.of_ext hx5 0)
 refine Q1 ?_;refine Q4 (hc:=TV (hB.stp hX5 (by simp;omega)) hT (hV4.ext hx5 0) hi (by omega) (hL4.ext hx5 0) (hSe4.ext hx5 0) h8 (by omega) hU' hst hLf (fun g1 w1 hs=>hDo g1 w1 q2 d2 (hX5.trans (hs.mono (by simp))) ((hW4.ext hx5 0).stp hs (by simp))) hs5) ?_;rintro _ w6 ⟨rfl,R,g6,q6,hS6,hV6,hL6,hSe6,hΨ6⟩;refine Kc ?_
 have u9:9 ∉ U:=fun e=>by have:=hU _ e;omega
 have u0:0 ∉ U:=fun e=>by have:=hU _ e;omega
 have hH6:=((hH4.ext hx5 0)).stp hS6 (by simp;exact ⟨by omega,by omega,by omega,u9⟩)
 have b6:=hH6.blk
 repeat' (first|refine R1 ?_|refine R2 ?_|fail)
 all_goals try (exfalso;simp only at *;omega)
 refine Zg ?_
 repeat' (first|refine R1 ?_|(refine Q1 ?_;first|(apply Zi;exact rfl;exact Lj _ _;exact rfl)|(refine Q2 (hu:=T.f39_0) ?_)|(refine Q3 (hu:=T.p37) ?_))|refine R2 ?_|fail)
 refine Q1 ?_
 refine Q12 Cr ⟨2,i,0,none,0,0⟩ T.s67 ?_
 intro p7 w7 hp7 hs7 hb7 hx7 hz7
 refine Q1 ?_;refine Q4 (hc:=TU (ix:=ix) (hV6.ext hx7 0) hi (by omega) (hL6.ext hx7 0) (hSe6.ext hx7 0) h8 (by omega) hs7) ?_;rintro _ w8 ⟨rfl,g8,q8,hS8,hV8,hL8,hSe8⟩;refine Kc ?_
 have hH8:=(hH6.ext hx7 0).stp hS8 (by simp;omega)
 have b8:=hH8.blk
 repeat' (first|refine R1 ?_|refine R2 ?_|fail)
 all_goals try (exfalso;simp only at *;omega)
 have hXT:Stq ix (8 :: x.b :: (x.b+1) :: (x.b+2) :: (x.b+3) :: U) g g8 w w8:=(((hX5.mono (fun t ht=>by simp at ht ⊢;rcases ht with e|e|e|e|e <;> simp [e])).trans (hS6.mono (fun t ht=>by simp at ht ⊢;rcases ht with e|e|e|e|e <;> simp [e]))).trans (Stq.of_ext hx7 0)).trans (hS8.mono (fun t ht=>by simp at ht ⊢;rcases ht with e|e|e|e <;> simp [e]))
 obtain ⟨ou',hou⟩:∃ou':Nat→List UInt8,ou'=fun j=>if j=i then ou i++Ed R else ou j:=⟨_,rfl⟩
 have hoi:ou' i=ou i++Ed R:=by rw [hou];simp
 have hC8:Cs g8 w8 W0.heap.size (n+4) cs ou':=by
  refine ⟨hcl,fun j y hy=>?_⟩
  by_cases e:j=i
  ·subst e
   obtain rfl:x=y:=by rw [hi] at hy;injection hy
   exact ⟨⟨q8,by rw [hoi];exact hL8⟩,hSe8,hxb,hrd⟩
  ·obtain ⟨⟨qy,h1⟩,h2,h3,h4⟩:=hC.one j y hy
   have ho:ou' j=ou j:=by rw [hou];simp [e]
   have nt:∀d,d≤3→y.b+d ∉ (8 :: x.b :: (x.b+1) :: (x.b+2) :: (x.b+3) :: U):=fun d hd e'=>by
    simp only [List.mem_cons] at e'
    rcases e' with e'|e'|e'|e'|e'|e'
    ·omega
    ·omega
    ·omega
    ·omega
    ·omega
    ·have:=hU _ e';omega
   exact ⟨⟨qy,by rw [ho];exact (h1.stp hXT (nt 1 (by omega)) (nt 2 (by omega))).mono (by omega)⟩,h2.stp hXT (nt 0 (by omega)) (nt 3 (by omega)),h3,h4⟩
 repeat' (first|refine R1 ?_|(refine Q1 ?_;first|(refine Q4 (f:=34) (hc:=OD hH8 hV8 (fun i x hx=>⟨(hC8.one i x hx).1,none,0,[],_,(hC8.one i x hx).2.1⟩) hcl hi (by omega)) ?_;rintro _ w9 ⟨r9,rfl,hr9,hO9,hx9⟩;refine Kc ?_;replace b8:=b8.ext (Kx hx9))|(refine Q41 rfl (hr:=QB _) ?_)|(refine Q6 (hu:=T.s40) ?_))|refine R2 ?_|(apply Za;exact rfl;all_goals (intro h;try (exfalso;omega)))|fail)
 ·exfalso
  rw [hoi,List.length_append] at hr9
  omega
 rw [hoi] at hO9 hr9
 have s9:=hO9.sl
 obtain ⟨l9,ip9,il9,ic9,op9,ol9,oc9,ov9⟩:=r9
 simp only at hr9 hO9 s9
 subst hr9
 have hle:(ou i).length≤(ou i++Ed R).length:=by rw [List.length_append];omega
 have hd9:=s9.drop (l:=(ou i).length) (Nat.le_trans hle s9.ok.le)
 rw [List.drop_left] at hd9
 have hln:(ou i++Ed R).length - (ou i).length=(Ed R).length:=by rw [List.length_append];omega
 repeat' (first|refine R1 ?_|(refine Q1 ?_;first|(refine Q18 T.s40 s9.ok (q:=(ou i).length) (hj:=congrArg Int.ofNat hr1) (hq:=hle) ?_)|(refine Q30 T.s40 T.i5 T.str9 (hm:=hln) (hs:=hd9) ?_))|refine R2 ?_|fail)
 refine Kr Tryz.results18 ?_
 exact ⟨R,rt g8 w8 0,ou',rfl,hXT.trans (Stq.of_ext hx9 0),hH8.ext hx9 0,hV8.ext hx9 0,hC8.ext hx9 0,hst _ _ _ _ _ (hst _ _ _ _ _ (hst _ _ _ _ _ hΨ6 (Stq.of_ext hx7 0)) (hS8.mono (fun t ht=>by simp at ht ⊢;rcases ht with e|e|e|e <;> simp [e]))) (Stq.of_ext hx9 0)⟩
theorem Sy {R:Bg} (h:Lf R):∀m,(Ed R)[0]?=some m→m≠42:=by
 intro m hm
 have hr:=h.right
 have hk:=h.kind
 have hle:R.kind≤5:=by
  simp only [Bu,Ca,Bool.and_eq_true,decide_eq_true_eq] at hr
  exact hr.1.1.1.1.1.2
 have hge:0≤R.kind:=by
  simp only [Bu,Ca,Bool.and_eq_true,decide_eq_true_eq] at hr
  exact hr.1.1.1.1.1.1
 have e:(trR R).kind=R.kind:=rfl
 rw [MV] at hm
 unfold BC at hm
 rw [e] at hm
 repeat' split at hm
 all_goals first|(exfalso;omega)|(simp at hm;subst hm;decide)
set_option maxRecDepth 20000 in
theorem WF (hB:Bs W0 ix g w) (hT:Pow W0) (hE:CL W0) (hH:Bk g w 9 hb 39 [.pointer (some (adr (bx sb) 0))]) (hV:Srv g w sb m kp dk slot log clk lasts cs n) (hC:Cs g w W0.heap.size n cs ou) (hi:cs[i]?=some x) (hn:n≤190) (hl:FE l) (hU:∀t∈U,0<t∧(t<8∨t=x.b+4)) (hW:Sl w.heap Ar q d l)
  (hst:∀R g1 w1 g2 w2,Ψ R g1 w1→Stq ix [0,8,x.b,x.b+1,x.b+2,x.b+3] g1 g2 w1 w2→Ψ R g2 w2) (hLf:∀R g1 w1,Ψ R g1 w1→Lf R)
  (hDo:∀g1 w1 q2 d2,Stq ix [8,x.b,x.b+1,x.b+2,x.b+3] g g1 w w1→SlT g1 w1 (x.b+3) Ar q2 d2 l→Ctr Tryz.prog 58 [.pointer (some (adr (bx x.cl) 0)),.slice q2 l.length d2] w1 (fun v w'=>∃R,v=.tuple #[.agg (Aq.enc R).toArray,.bool false]∧∃g',Stq ix U g1 g' w1 w'∧Ψ R g' w')) :
  Ctr Tryz.prog 10 [.pointer (some (adr (bx hb) 0)),.int .i64 (i:Int),.slice q l.length d] w (fun v w'=>∃R r g' ou',v=.agg (Aq.enc r).toArray∧r.kind=R.kind∧r.s=R.s∧r.n=R.n∧Stq ix (8 :: x.b :: (x.b+1) :: (x.b+2) :: (x.b+3) :: U) g g' w w'∧Bk g' w' 9 hb 39 [.pointer (some (adr (bx sb) 0))]∧Srv g' w' sb m kp dk slot log clk lasts cs (n+4)∧Cs g' w' W0.heap.size (n+4) cs ou'∧Ψ R g' w'):=by
 refine Ac Tryz.func10 Tryz.ntmps10 rfl rfl rfl ?_
 repeat' (refine R1 ?_)
 refine Q1 ?_;refine Q7 T.zero33 ?_;intro a6 w1 ha6 hA6 hx1 hs1
 have hW1:=hW.ext hx1
 repeat' (first|refine R1 ?_|(refine Q1 ?_;(refine Q4 (f:=19) (hc:=IP hW1) ?_;rintro _ w2 ⟨hx2,rfl⟩;refine Kc ?_;replace hA6:=hA6.ext (Kx hx2)))|fail)
 rw [Uz hl]
 have hx02:=hx1.trans hx2
 have hX2:∀T,Stq ix T g (rt g w 0) w w2:=fun T=>Stq.of_ext hx02 0
 have hK6:Bk (rt g w 0) w2 0 a6 33 _:=Bk.new hA6 (by omega) (by unfold ixT;decide)
 refine Q1 ?_;refine Q4 (hc:=Ve (hB.stp (hX2 []) (by simp)) hT hE (hH.ext hx02 0) (hV.ext hx02 0) (hC.ext hx02 0) hi hn hl hU hst hLf (fun g1 w1 q2 d2 hs hw=>hDo g1 w1 q2 d2 ((hX2 _).trans hs) hw)) ?_;rintro _ w3 ⟨R,g3,ou3,rfl,hS3,hH3,hV3,hC3,hΨ3⟩;refine Kc ?_
 have hK63:=hK6.stp hS3 (by simp;exact ⟨by have:=(hC.one i x hi).2.2.1;omega,fun e=>by have:=hU _ e;omega⟩)
 have hA3:=hK63.blk
 repeat' (refine R1 ?_)
 have hLr:=hLf _ _ _ hΨ3
 have hbl:=Fj hLr
 have hsz:(Af (Ed R)).size≤100000000:=by rw [KD];omega
 refine Q1 ?_
 refine Q66 T.str9 T.s40 T.i5 (hl:=hsz) ?_
 intro b4 c4 w4 hbe4 hM4 hx4 hz4
 rw [Fw] at hM4
 rw [Fw]
 have hA4:=hA3.ext hx4
 have hf:NG 4 (trR R):=⟨⟨hLr.fits,(by have:=hLr.small;show R.s.size≤_;omega),Nat.zero_le _⟩,fun x hx=>by cases hx⟩
 have hrd:=Xc 4 (trR R) hLr.right hf []
 rw [List.append_nil] at hrd
 have hgd:Bt ((Ed R).drop 0)≠.none:=fun e=>by
  have e1:=UC (d:=4) e
  rw [List.drop_zero] at e1
  rw [show Ed R=wT 4 (trR R) from rfl,hrd] at e1
  cases e1
 repeat' (refine Q1 ?_;first|refine Q19 ?_|(refine Q4 (f:=20) (hc:=MU (k:=0) (bs:=Ed R) (Nat.zero_le _) (by omega) hM4.sl hgd (Sy hLr)) ?_;rintro _ w5 ⟨hx5,hR5⟩;refine Kc ?_;replace hA4:=hA4.ext (Kx hx5)))
 rcases hR5 with ⟨t5,j5,r5,e1,rfl,e3⟩|⟨e1,-⟩
 ·rw [List.drop_zero] at e1
  have e4:=hrd.symm.trans e1
  injection e4 with e4
  injection e4 with e5 e6
  subst e5 e6
  have ej:(wT 4 (trR R)).length=(Af (Ed R)).size:=(KD _).symm
  repeat' (refine Q1 ?_;refine Q33 ?_)
  refine Q1 ?_;refine Q7 T.zero33 ?_;intro a8 w6 ha8 hA8 hx6 hs6
  have hA6:=hA4.ext hx6
  skip
  refine Q1 ?_;refine Q5 T.z33 hA8 ?_;intro w7 hA8 hg7 hs7
  replace hA8:Blk w7.heap a8 33 (Aq.enc r5):=hA8
  have hx57:Ext w5 w7:=hx6.own hg7 (fun k hk=>by injection hk;omega)
  have hA7:=hA4.ext hx57
  repeat' (first|refine R1 ?_|(refine Q1 ?_;first|(refine Q11 T.a33 (hb:=hA8) ?_)|refine Q17 T.str9 ?_)|refine R2 ?_|(apply Za;exact rfl;all_goals (intro h;try (exfalso;omega)))|fail)
  refine Q1 ?_;refine Q5 T.z33 hA7 ?_;intro w8 hA9 hg8 hs8
  replace hA9:Blk w8.heap a6 33 (Aq.enc r5):=hA9
  repeat' (first|refine R1 ?_|refine R2 ?_|fail)
  refine Ze Tryz.results10 ⟨_,_,_,rfl,rfl,Ae T.a33 (by assumption) rfl,rfl⟩ ?_
  have hx35:=(hx4.trans hx5).trans hx57
  have hK7:=(hK63.ext hx35 0).stpG (T:=[0]) (ix:=ix) hg8 0 (by simp)
  have hb:=(hC.one i x hi).2.2.1
  have hX8:Stq ix (8 :: x.b :: (x.b+1) :: (x.b+2) :: (x.b+3) :: U) g _ w w8:=(((hX2 _).trans hS3).trans (Stq.of_ext hx35 0)).own hg8 (by omega) 0
  exact ⟨R,r5,_,ou3,rfl,e3.1,e3.2.1,e3.2.2.1,hX8,(hH3.ext hx35 0).stp hK7 (by simp),(hV3.ext hx35 0).stp hK7 (by simp),(hC3.ext hx35 0).stp hK7 (by simp),hst _ _ _ _ _ (hst _ _ _ _ _ hΨ3 (Stq.of_ext hx35 0)) (hK7.mono (by simp))⟩
 ·exfalso
  rw [List.drop_zero] at e1
  rw [show Ed R=wT 4 (trR R) from rfl,hrd] at e1
  cases e1
attribute [local irreducible] PlainT
structure Db (g:Nat→Nat) (w:World) (ix st k m lg d:Nat) (key:ByteArray) (vs:List Ver) (last mark:Nat) (clk:Int) (ts:List TG) (nn used:Nat):Prop where
 mgr:AL g w m st k clk ts
 sto:Cf g w st ix key vs last mark
 kep:∃sg sv ds,BX g w k lg d sg nn used last sv ds
theorem Db.stp {ix:Nat} {T:List Nat} {g g':Nat→Nat} {w w':World} {st k m lg d:Nat} {key:ByteArray} {vs:List Ver} {last mark:Nat} {clk:Int} {ts:List TG} {nn used:Nat} (h:Db g w ix st k m lg d key vs last mark clk ts nn used) (s:Stq ix T g g' w w') (hT:∀t∈T,t=0∨7<t):Db g' w' ix st k m lg d key vs last mark clk ts nn used:=by
 obtain ⟨sg,sv,ds,h3⟩:=h.kep
 have n:∀t,0<t→t≤7→t ∉ T:=fun t h1 h2 e=>by have:=hT t e;omega
 exact ⟨h.mgr.stp s (n 4 (by omega) (by omega)) (n 5 (by omega) (by omega)),h.sto.stp s (n 3 (by omega) (by omega)),sg,sv,ds,h3.stp s (n 1 (by omega) (by omega)) (n 2 (by omega) (by omega)) (n 6 (by omega) (by omega))⟩
theorem Ty (m k c:Nat) (w:World):(Instr.build 82 [(0,Value.pointer (some (adr (bx m) 0))),(1,Value.pointer (some (adr (bx k) 0))),(3,Value.chan (some c))].toArray).run Tryz.prog w=.ok (.agg #[.pointer (some (adr (bx m) 0)),.pointer (some (adr (bx k) 0)),.int .i64 0,.chan (some c)]) w:=by kernel_rfl
theorem Ud:Tryz.prog.info? 75=some (Tryz.prog.types[75]!):=by kernel_rfl
def Gq (g:Nat→Nat) (w:World) (st k lg sl:Nat) (j:Nat):Nat:=if j<w.heap.size then g j else if j=st then 3 else if j=k then 6 else if j=lg then 2 else if j=sl then 6 else 0
theorem Stq.of_gOpen {ix:Nat} {T:List Nat} {g:Nat→Nat} {w w':World} (h:Ext w w') (st k lg sl:Nat):Stq ix T g (Gq g w st k lg sl) w w':=⟨h.os,h.tape,h.output,h.size,fun k hk _ _=>h.block k hk,fun j hj=>by unfold Gq;rw [if_pos hj]⟩
theorem Vu (a b:Int) (d:Nat) (w:World):(Instr.build 72 [(0,Value.agg #[.int .i64 a,.int .i64 b]),(1,Value.pointer (some (adr (bx d) 0)))].toArray).run Tryz.prog w=.ok (.agg #[.int .i64 a,.int .i64 b,.pointer (some (adr (bx d) 0)),.int .i64 0,.slice none 0 0,.slice none 0 0,.pointer none]) w:=by kernel_rfl
theorem Rp (a:Int) (w:World):(Instr.build 89 [(0,Value.int .i64 a)].toArray).run Tryz.prog w=.ok (.agg #[.int .i64 a,.slice none 0 0,.slice none 0 0,.bool false]) w:=by kernel_rfl
theorem Tz (s:Nat) (a:Int) (w:World):(Instr.build 91 [(0,Value.pointer (some (adr (bx s) 0))),(1,Value.agg #[.int .i64 a,.slice none 0 0,.slice none 0 0,.bool false])].toArray).run Tryz.prog w=.ok (.agg #[.pointer (some (adr (bx s) 0)),.int .i64 a,.slice none 0 0,.slice none 0 0,.bool false,.bool false,.bool false]) w:=by kernel_rfl
set_option maxRecDepth 20000 in
theorem Oy (hV:Srv g w sb m kp dk slot log clk lasts cs n) (hcs:cs.length≤7) (hla:1≤lasts.length∧lasts.length≤1000) (hb:8<b) :
  Ctr Tryz.prog 24 [.pointer (some (adr (bx sb) 0))] w (fun _ w'=>∃g' x,x.b=b∧w.heap.size≤x.rd∧Stq ix [8] g g' w w'∧Srv g' w' sb m kp dk slot log clk lasts (cs++[x]) n∧Ct g' w' x n [] false∧AV g' w' x.b x.ss x.cl x.rd x.qc none 0 [] #[]∧Bk g' w' (x.b+4) x.cl 190 [.pointer (some (adr (bx m) 0)),.pointer none]):=by
 obtain ⟨lf,tq,lp,lc,cp,cc,bf,k1,k2,k3,k4,k5,k6⟩:=hV.ex
 have b1:=k1.blk
 have b4:=k4.blk
 have hcl:(cs.map (·.ln)).length=cs.length:=List.length_map _
 refine Ac Tryz.func24 Tryz.ntmps24 rfl rfl rfl ?_
 repeat' (first|refine R1 ?_|(refine Q1 ?_;first|(refine Q2 (hu:=by (first|exact T.f72_5|exact T.f82_2|exact T.f82_0)) ?_)|(refine Q3 (hu:=by (first|exact T.p70|exact T.p3|exact T.p46)) ?_))|refine R2 ?_|(apply Za;exact rfl;all_goals (intro h;try (exfalso;omega)))|fail)
 all_goals try (exfalso;simp only at *;omega)
 refine Q1 ?_;refine Q4 (hc:=Ww (g:=g) (b:=b) (m:=m) (by omega)) ?_;rintro _ w1 ⟨ss,cl,rd,qc,g1,rfl,hrd,hss,hx1,hg1,hSe1,hC1⟩;refine Kc ?_
 have hS1:∀T,Stq ix T g g1 w w1:=fun T=>⟨hx1.os,hx1.tape,hx1.output,hx1.size,fun k hk _ _=>hx1.block k hk,hg1⟩
 have k1:=k1.stp (hS1 []) (by simp)
 have k2:=k2.stp (hS1 []) (by simp)
 have k3:=k3.stp (hS1 []) (by simp)
 have k4:=k4.stp (hS1 []) (by simp)
 have k5:=k5.stp (hS1 []) (by simp)
 have b1:=k1.blk
 have b4:=k4.blk
 repeat' (first|refine R1 ?_|(refine Q1 ?_;first|(refine Q2 (hu:=by (first|exact T.f72_5|exact T.f82_2)) ?_)|(refine Q3 (hu:=by (first|exact T.p70|exact T.p3)) ?_))|refine R2 ?_|fail)
 refine Q1 ?_;refine Q5 T.z3 b4 ?_;intro w2 hb2 hg2 hs2
 replace hb2:Blk w2.heap lf 82 [.pointer (some (adr (bx m) 0)),.pointer (some (adr (bx kp) 0)),.int .i64 ((cs.length:Int)+1),.chan (some tq)]:=hb2
 have hS2:=k4.stpG (T:=[8]) (ix:=ix) hg2 0 (by simp)
 have k1:=k1.turn hg2 (fun e=>k4.neT k1 (by decide) (by injection e)) 0
 have k2:=k2.turn hg2 (fun k hk e=>k2.neB k4 (by decide) (by rw [hk];exact e.symm)) 0
 have k3:=k3.turn hg2 (fun k hk e=>k3.neB k4 (by decide) (by rw [hk];exact e.symm)) 0
 have k5:=k5.turn k4 hg2 0
 have k4:=k4.turned (u:=0) hb2
 have hSe2:=hSe1.stp hS2 (by simp;omega) (by simp;omega)
 have hC2:=hC1.stp hS2 (by simp;omega)
 have hd:Ext w2 w2.drew:=Ext.drew Ext.rfl'
 have k1:=k1.ext hd 0
 have k2:=k2.ext hd 0
 have k3:=k3.ext hd 0
 have k4:=k4.ext hd 0
 have k5:=k5.ext hd 0
 have hSe2:=hSe2.ext hd 0
 have hC2:=hC2.ext hd 0
 have b1:=k1.blk
 repeat' (refine R1 ?_)
 refine Zl 1 [] (.node [0,1,2,3,4,5,6,7,8] (.alt 9 (.node [] (.alt 10 (.leaf [11,12,13,14,15,16,17,18,19]) .stop)) .stop)) mixed (by decide +kernel) ?_
 repeat' (first|refine R1 ?_|(refine Q1 ?_;first|(apply Zi;exact rfl;exact Rp _;exact rfl)|(apply Zi;exact rfl;exact Tz _ _;exact rfl)|(refine Q2 (hu:=by (first|exact T.f72_4|exact T.f72_3)) ?_)|(refine Q3 (hu:=by (first|exact T.p69|exact T.p41)) ?_)|(refine Q6 (hu:=T.s41) ?_))|(refine Zj ?_)|(refine Zp ?_)|(apply Zv)|refine R2 ?_|(exact Zq)|fail)
 refine Q1 ?_;refine Q8 ?_;intro a5 w5 ha5 hA5 hx5 hs5
 replace hA5:Blk w5.heap a5 91 [.pointer (some (adr (bx ss) 0)),.int .i64 ((lasts.length:Int) - 1),.slice none 0 0,.slice none 0 0,.bool false,.bool false,.bool false]:=hA5
 skip
 refine Q1 ?_
 refine Q12 ePt a5 T.s69 ?_
 intro p6 w6 hp6 hs6 hb6 hx6 hz6
 have hl5:Bk (rt (rt (rt g1 w1 0) w2 0) w2.drew (b+1)) w5 (b+1) a5 91 _:=Bk.new hA5 (by omega) (by unfold ixT;decide)
 have hl6:=hl5.ext hx6 0
 have k1:=(k1.ext hx5 (b+1)).ext hx6 0
 have k2:=(k2.ext hx5 (b+1)).ext hx6 0
 have k3:=(k3.ext hx5 (b+1)).ext hx6 0
 have k4:=(k4.ext hx5 (b+1)).ext hx6 0
 have k5:=(k5.ext hx5 (b+1)).ext hx6 0
 have hSe6:=(hSe2.ext hx5 (b+1)).ext hx6 0
 have hC6:=(hC2.ext hx5 (b+1)).ext hx6 0
 have b1:=k1.blk
 have o3:=k3.own
 repeat' (refine Q1 ?_;first|refine Q21 ?_|(refine Q16 T.s69 o3 hs6 (hB:=Nat.zero_le _) ?_;intro p7 c7 w7 ha7)|(refine Q2 (hu:=T.f72_4) ?_))
 have hS7:=k3.appS (T:=[8]) (ix:=ix) ha7 (by simp)
 have r7:=k3.app ha7
 have k1:=k1.turn ha7.grown (k3.neB k1 (by decide)) 8
 have k2:=k2.turn ha7.grown (fun k hk e=>k2.neT k3 (by decide) k e hk) 8
 have k4:=k4.turn ha7.grown (k3.neB k4 (by decide)) 8
 have k5:=k5.turnR k3 ha7.grown 8
 have hSe7:=hSe6.stp hS7 (by simp;omega) (by simp;omega)
 have hC7:=hC6.stp hS7 (by simp;omega)
 have hl7:=hl6.stp hS7 (by simp;omega)
 have b1:=k1.blk
 skip
 refine Q1 ?_;refine Q5 T.z69 b1 ?_;intro w8 hb8 hg8 hs8
 replace hb8:Blk w8.heap sb 72 [.int .i64 slot,.int .i64 log,.pointer (some (adr (bx dk) 0)),.int .i64 clk,.slice lp lasts.length lc,.slice p7 (cs.map (·.ln)++[a5]).length c7,.pointer (some (adr (bx lf) 0))]:=hb8
 have hS8:=k1.stpG (T:=[8]) (ix:=ix) hg8 0 (by simp)
 have k2:=k2.turn hg8 (fun k hk e=>k2.neB k1 (by decide) (by rw [hk];exact e.symm)) 0
 have r7:=r7.turn hg8 (fun k hk e=>r7.neB k1 (by decide) (by rw [hk];exact e.symm)) 0
 have k4:=k4.turn hg8 (fun e=>k4.neT k1 (by decide) (by injection e with e;exact e.symm)) 0
 have k5:=k5.turn k1 hg8 0
 have hSe8:=hSe7.stp hS8 (by simp;omega) (by simp;omega)
 have hC8:=hC7.stp hS8 (by simp;omega)
 have hl8:=hl7.stp hS8 (by simp;omega)
 have k1:=k1.turned (u:=0) hb8
 repeat' apply Zu
 refine Zk Tryz.results24 (vs:=[]) rfl ?_
 have hX:=((((((hS1 [8]).trans hS2).trans (Stq.of_ext hd 0)).trans (Stq.of_ext hx5 (b+1))).trans (Stq.of_ext hx6 0)).trans hS7).trans hS8
 refine ⟨_,⟨b,ss,cl,rd,qc,a5⟩,rfl,hrd,hX,⟨lf,tq,lp,lc,p7,c7,bf,by rw [List.map_append];exact k1,k2,by rw [List.map_append];exact r7,by rw [List.length_append];exact k4,k5,k6⟩,⟨_,none,0,[],none,0,hl8,Rw.nil (by unfold ixT;decide),Rw.nil (by unfold ixT;decide),Nat.zero_le _,Nat.zero_le _⟩,hSe8,hC8⟩
set_option maxRecDepth 20000 in
theorem Pg (hV:Srv g w sb m kp dk slot log clk lasts cs n) (hcs:cs.length≤7) (hla:1≤lasts.length∧lasts.length≤1000) (hb:8<b) (hD:Sl w.heap Cr dp dc [⟨0,0,0,none,0,0⟩]) :
  Ctr Tryz.prog 12 [.pointer (some (adr (bx sb) 0)),.slice dp 1 dc] w (fun _ w'=>∃g' x,x.b=b∧w.heap.size≤x.rd∧Stq ix [8] g g' w w'∧Srv g' w' sb m kp dk slot log clk lasts (cs++[x]) n∧Ct g' w' x n [] false∧AV g' w' x.b x.ss x.cl x.rd x.qc none 0 [] #[]∧Bk g' w' (x.b+4) x.cl 190 [.pointer (some (adr (bx m) 0)),.pointer none]):=by
 obtain ⟨lf,tq,lp,lc,cp,cc,bf,k1,k2,k3,k4,k5,k6⟩:=hV.ex
 have bb1:=k1.blk
 refine Ac Tryz.func12 Tryz.ntmps12 rfl rfl rfl ?_
 repeat' (first|refine R1 ?_|(refine Q1 ?_;first|(refine Q15 Tryz.underlying37 (t:=37) ?_)|(refine Q15 Tryz.underlying68 (t:=68) ?_)|(refine Q2 (hu:=T.f72_1) ?_)|(refine Q3 (hu:=T.p68) ?_)|(refine Q6 (hu:=T.s67) ?_))|apply ZF|apply ZK|refine R2 ?_|fail)
 all_goals try (exfalso;simp only at *;omega)
 refine Zm ?_
 repeat' (first|(refine Q1 ?_;first|(refine Q10 T.s67 hD.ok (q:=0) (hj:=rfl) (h1:=by (simp)) ?_)|(refine Q14 T.a43 (q:=0) (e:=Cr) (hs:=hD) (hq:=rfl) ?_))|refine R1 ?_|refine R2 ?_|fail)
 all_goals try (exfalso;simp only at *;omega)
 refine Q1 ?_;refine Q7 T.zero43 ?_;intro a7 w1 ha7 hA7 hx1 hs1
 have bb2:=bb1.ext hx1
 skip
 refine Q1 ?_;refine Q5 T.z43 hA7 ?_;intro w2 hA7 hg2 hs2
 have hx2:Ext w w2:=hx1.own hg2 (fun k hk=>by injection hk;omega)
 replace bb2:=bb1.ext hx2
 have hV2:=hV.ext hx2 0
 replace hA7:Blk w2.heap a7 43 [.int .i64 0,.int .i64 0,.int .i64 0,.slice none 0 0,.slice none 0 0]:=hA7
 repeat' (first|refine R1 ?_|(refine Q1 ?_;first|(refine Q15 Tryz.underlying70 (t:=70) ?_)|(refine Q2 (hu:=by (first|exact T.f43_0|exact T.f72_5)) ?_)|(refine Q3 (hu:=by (first|exact T.p3|exact T.p70)) ?_))|refine R2 ?_|fail)
 all_goals try (exfalso;simp only at *;omega)
 refine Q1 ?_;refine Q4 (hc:=Oy (ix:=ix) hV2 hcs hla hb) ?_;rintro _ w4 ⟨g4,x,hxb,hrd,hS4,hV4,hL4,hSe4,hC4⟩;refine Kc ?_
 repeat' (first|refine R1 ?_|refine R2 ?_|fail)
 refine Zg ?_
 repeat' (first|refine R1 ?_|apply Zo|refine R2 ?_|fail)
 all_goals try (exfalso;simp only at *;omega)
 refine Kr Tryz.results12 ?_
 exact ⟨g4,x,hxb,Nat.le_trans hx2.size hrd,(Stq.of_ext hx2 0).trans hS4,hV4,hL4,hSe4,hC4⟩
theorem GX (k:Int) (w:World):(Instr.build 43 [(0,Value.int .i64 k)].toArray).run Tryz.prog w=.ok (.agg #[.int .i64 k,.int .i64 0,.int .i64 0,.slice none 0 0,.slice none 0 0]) w:=by kernel_rfl
theorem Rk (s:Nat) (w:World):(Instr.build 39 [(0,Value.pointer (some (adr (bx s) 0)))].toArray).run Tryz.prog w=.ok (.agg #[.pointer (some (adr (bx s) 0))]) w:=by kernel_rfl
def Clis (g:Nat→Nat) (w:World) (m:Nat) (cs:List Cn):Prop:=∀(i:Nat) (x:Cn),cs[i]?=some x→Bk g w (x.b+4) x.cl 190 [.pointer (some (adr (bx m) 0)),.pointer none]
structure Opn (W0:World) (g:Nat→Nat) (w:World) (ix hb sb dk m k lg st each nn:Nat) (cs:List Cn) (key:ByteArray):Prop where
 bs:Bs W0 ix g w
 hs:Bk g w 9 hb 39 [.pointer (some (adr (bx sb) 0))]
 srv:Srv g w sb m k dk each nn 0 [0] cs 0
 con:Cs g w W0.heap.size 0 cs (fun _=>[])
 db:Db g w ix st k m lg dk key [] 0 0 0 [] nn 0
 cli:Clis g w m cs
theorem Ow {α:Type} {l:List α} {x z:α} {i:Nat} (h:(l++[x])[i]?=some z):l[i]?=some z∨i=l.length∧z=x:=by
 by_cases hi:i<l.length
 ·rw [List.getElem?_append_left hi] at h;exact .inl h
 ·rw [List.getElem?_append_right (by omega)] at h
  obtain ⟨j,hj⟩:∃j,i - l.length=j:=⟨_,rfl⟩
  rw [hj] at h
  cases j with
  | zero=>injection h with h;exact .inr ⟨by omega,h.symm⟩
  | succ j=>simp at h
theorem Gu {name:ByteArray} (h:name=Hz∨name=EW∨name=Dh):name∈AQ.map (·.1):=by
 rcases h with rfl|rfl|rfl
 ·exact List.mem_of_getElem? (i:=17) rfl
 ·exact List.mem_of_getElem? (i:=6) rfl
 ·exact List.mem_of_getElem? (i:=19) rfl
def Wrote (ix st m k lg d:Nat) (key:ByteArray) (vs:List Ver) (last mark:Nat) (clk:Int) (ts:List TG) (nn used:Nat) (s:ByteArray) (e:Int) (R:Bg) (g:Nat→Nat) (w:World):Prop :=
 R=Av 0 sOK 0∧∃y:Wt,y.gone=false∧y.exp=e∧y.val.text=s∧Db g w ix st k m lg d key (vs++[y.v (last+1:Nat)]) (last+1) mark clk ts nn (used+DX (22+key.size+s.size))
theorem Wrote.stp {e:Int} {R:Bg} {T:List Nat} {g g':Nat→Nat} {w w':World} (h:Wrote ix st m k lg d key vs last mark clk ts nn used s e R g w) (hs:Stq ix T g g' w w') (hT:∀t∈T,t=0∨7<t):Wrote ix st m k lg d key vs last mark clk ts nn used s e R g' w':=by
 obtain ⟨h1,y,h2,h3,h4,h5⟩:=h
 exact ⟨h1,y,h2,h3,h4,h5.stp hs hT⟩
def Seen (ix st m k lg d:Nat) (key:ByteArray) (vs:List Ver) (last mark:Nat) (clk:Int) (ts:List TG) (nn used:Nat) (F:Aw→Bool→Bg) (s c:Int) (R:Bg) (g:Nat→Nat) (w:World):Prop :=
 (∃r ok,R=F r ok∧Dv vs s c r ok)∧Db g w ix st k m lg d key vs last mark clk ts nn used
theorem Seen.stp {F:Aw→Bool→Bg} {s c:Int} {R:Bg} {T:List Nat} {g g':Nat→Nat} {w w':World} (h:Seen ix st m k lg d key vs last mark clk ts nn used F s c R g w) (hs:Stq ix T g g' w w') (hT:∀t∈T,t=0∨7<t):Seen ix st m k lg d key vs last mark clk ts nn used F s c R g' w' :=
 ⟨h.1,h.2.stp hs hT⟩
theorem Tc (r:Aw):(Dp r).kind≠1:=by
 unfold Dp
 split
 ·exact show ¬(3:Int)=1 by decide
 ·exact show ¬(4:Int)=1 by decide
def Gp (_:Int) (r:Aw) (_:Bool):Bg:=Dp r
theorem VA (hD:Db g w ix st k m lg d key vs last mark clk ts nn used) (hC:Bk g w j cl 190 [.pointer (some (adr (bx m) 0)),.pointer none]) (hj:j ∉ [4]) (hA:SlT g w jw Ar q dq [EW,key]) (hjw:jw ∉ [1,2,3,4,7]) (hl:ts.length≤8) (hk:key.size≤256) (_:0≤clk) (_:clk≤1099511627776) :
  Ctr Tryz.prog 58 [.pointer (some (adr (bx cl) 0)),.slice q 2 dq] w (fun v w'=>∃R,v=.tuple #[.agg (Aq.enc R).toArray,.bool false]∧∃g',Stq ix [4] g g' w w'∧Seen ix st m k lg d key vs last mark clk ts nn used (Gp clk) last clk R g' w'):=by
 refine Ia (Ψ:=Seen ix st m k lg d key vs last mark clk ts nn used (Gp clk) last clk) (fun R g1 w1 g2 w2 h hs=>h.stp hs (fun t ht=>by simp at ht;omega)) (by decide) hC.blk hA (by decide) (by decide) (fun w1=>IE) (fun w1=>EB (Gu (.inr (.inl rfl)))) (fun w1 q' d' hx hS=>?_)
 have hD1:=hD.stp (ix:=ix) (T:=[]) (g':=rt g w 0) (Stq.of_ext hx 0) (fun t ht=>by cases ht)
 obtain ⟨sg,sv,ds,hK⟩:=hD1.kep
 refine (Lu (Φ:=fun R=>∃r ok,R=(Gp clk) r ok∧Dv vs last clk r ok) (hC.ext hx 0) hj hD1.mgr hl hD1.sto hS hjw hk ?_ ?_).mono ?_
 ·rintro R ⟨r,ok,rfl,-⟩
  exact Tc r
 ·intro w2 t mp vw F hR hv hW
  refine (TS hR hv hW).mono ?_
  rintro v w' ⟨r,ok,rfl,h1,h2⟩
  exact ⟨_,rfl,⟨r,ok,rfl,h1⟩,h2⟩
 ·rintro v w' ⟨R,rfl,hR,g',hS,hM⟩
  exact ⟨R,rfl,g',hS,hR,hM,hD1.sto.stp hS (by decide),sg,sv,ds,hK.stp hS (by decide) (by decide) (by decide)⟩
def Le (ix st m k lg d:Nat) (key:ByteArray) (vs:List Ver) (last mark:Nat) (clk:Int) (ts:List TG) (nn used j cl:Nat) (R:Bg) (g:Nat→Nat) (w:World):Prop :=
 R=Av 0 sOK 0∧∃t mp,Db g w ix st k m lg d key vs last mark clk (ts++[⟨t,(last:Int),clk,false,mp⟩]) nn used∧BF g w mp none∧Bk g w j cl 190 [.pointer (some (adr (bx m) 0)),.pointer (some (adr (bx t) 0))]
theorem Le.stp {R:Bg} {T:List Nat} {g g':Nat→Nat} {w w':World} (h:Le ix st m k lg d key vs last mark clk ts nn used j cl R g w) (hs:Stq ix T g g' w w') (hT:∀t∈T,t=0∨7<t) (hj:j ∉ T):Le ix st m k lg d key vs last mark clk ts nn used j cl R g' w':=by
 obtain ⟨h1,t,mp,h2,h3,h4⟩:=h
 exact ⟨h1,t,mp,h2.stp hs hT,h3.stp hs (fun e=>by have:=hT _ e;omega),h4.stp hs hj⟩
theorem lf_ok:Lf (Av 0 sOK 0):=⟨rfl,by decide,by unfold AC;decide,by decide,by decide⟩
theorem Un:Lf (Av 4 ⟨#[]⟩ 0):=⟨rfl,by decide,by unfold AC;decide,by decide,by decide⟩
theorem Wd {s:ByteArray} (h:s.size≤2000):Lf (Av 3 s 0):=⟨rfl,by simp [Bu,Ca,trR,Av,Rep.kind,Rep.l,Rep.n,Rep.s],show AC 0 by unfold AC;decide,h,show ¬(3:Int)=5 by decide⟩
theorem HV {vs:List Ver} {s c:Int} {v:Ver} (h:Gd vs s c v):v∈vs:=by
 obtain ⟨n,_,_,h1,_⟩:=h
 exact List.mem_of_getElem? h1
theorem Um {vs:List Ver} {s c c':Int} {r:Aw} {ok:Bool} (h:Dv vs s c r ok) (hv:∀v∈vs,v.val.text.size≤2000):Lf (Gp c' r ok):=by
 unfold Gp Dp
 cases ok with
 | false =>
  obtain ⟨rfl,-⟩:=h.1 rfl
  exact Un
 | true =>
  obtain ⟨v,h1,h2⟩:=h.2 rfl
  have:=(h2 #[]).val.text
  split
  ·exact Wd (by rw [this];exact hv v (HV h1))
  ·exact Un
structure Hse (W0:World) (g:Nat→Nat) (w:World) (ix hb sb dk m k:Nat) (slot log clk:Int) (cs:List Cn) (n:Nat):Prop where
 bs:Bs W0 ix g w
 hs:Bk g w 9 hb 39 [.pointer (some (adr (bx sb) 0))]
 srv:Srv g w sb m k dk slot log clk [0] cs n
 con:∃ou,Cs g w W0.heap.size n cs ou
theorem Hse.stp {W0:World} {T:List Nat} {g g':Nat→Nat} {w w':World} {ix hb sb dk m k n:Nat} {slot log clk:Int} {cs:List Cn} (h:Hse W0 g w ix hb sb dk m k slot log clk cs n) (s:Stq ix T g g' w w') (hT:∀t∈T,0<t∧t<8):Hse W0 g' w' ix hb sb dk m k slot log clk cs n:=by
 have nt:∀t,t=0∨7<t→t ∉ T:=fun t ht e=>by have:=hT t e;omega
 obtain ⟨ou,hc⟩:=h.con
 exact ⟨h.bs.stp s (nt 0 (.inl rfl)),h.hs.stp s (nt 9 (by omega)),h.srv.stp s (nt 8 (by omega)),ou,hc.stp s (fun t ht=>by have:=hT t ht;omega)⟩
theorem Hse.xt {W0:World} {g:Nat→Nat} {w w':World} {ix hb sb dk m k n:Nat} {slot log clk:Int} {cs:List Cn} (h:Hse W0 g w ix hb sb dk m k slot log clk cs n) (hx:Ext w w') (u:Nat):Hse W0 (rt g w u) w' ix hb sb dk m k slot log clk cs n:=h.stp (T:=[]) (Stq.of_ext hx u) (fun t ht=>by cases ht)
abbrev Nq (x:Cn) (U:List Nat):List Nat:=8 :: x.b :: (x.b+1) :: (x.b+2) :: (x.b+3) :: U
theorem JF (h:Hse W0 g w ix hb sb dk m k slot log clk cs n) (hP:Pow W0) (hE:CL W0) (hi:cs[i]?=some x) (hn:n≤190) (hl:FE l) (hW:Sl w.heap Ar q dq l) (hU:∀t∈U,0<t∧(t<8∨t=x.b+4))
  (hst:∀R g1 w1 g2 w2,Ψ R g1 w1→Stq ix [0,8,x.b,x.b+1,x.b+2,x.b+3] g1 g2 w1 w2→Ψ R g2 w2) (hLf:∀R g1 w1,Ψ R g1 w1→Lf R)
  (hDo:∀g1 w1 q2 d2,Stq ix [8,x.b,x.b+1,x.b+2,x.b+3] g g1 w w1→SlT g1 w1 (x.b+3) Ar q2 d2 l→Ctr Tryz.prog 58 [.pointer (some (adr (bx x.cl) 0)),.slice q2 l.length d2] w1 (fun v w'=>∃R,v=.tuple #[.agg (Aq.enc R).toArray,.bool false]∧∃g',Stq ix U g1 g' w1 w'∧Ψ R g' w')) :
  Ctr Tryz.prog 10 [.pointer (some (adr (bx hb) 0)),.int .i64 (i:Int),.slice q l.length dq] w (fun v w'=>∃R r g',v=.agg (Aq.enc r).toArray∧r.kind=R.kind∧r.s=R.s∧r.n=R.n∧Stq ix (Nq x U) g g' w w'∧Hse W0 g' w' ix hb sb dk m k slot log clk cs (n+4)∧Ψ R g' w'):=by
 obtain ⟨ou,hc⟩:=h.con
 refine (WF h.bs hP hE h.hs h.srv hc hi hn hl hU hW hst hLf hDo).mono ?_
 rintro v w' ⟨R,r,g',ou',rfl,h1,h2,h3,hS,hH,hV,hC,hΨ⟩
 have hb:=(hc.one i x hi).2.2.1
 exact ⟨R,r,g',rfl,h1,h2,h3,hS,⟨h.bs.stp hS (by simp;exact ⟨by omega,fun e=>by have:=hU _ e;omega⟩),hH,hV,ou',hC⟩,hΨ⟩
theorem DY {v:Ver} {s c:Int} {r:Aw} {ok:Bool} (hv:v.stamp≤s) (h:Dv [v] s c r ok):(Eh v c∧ok=true∧r.exp=v.exp∧r.raw.kind=v.val.kind∧r.raw.text=v.val.text)∨(¬Eh v c∧ok=false∧r=EX):=by
 have hs:Eh v c→Gd [v] s c v:=fun ha=>⟨1,⟨Nat.le_refl _,fun i y hi hy=>by
  match i with
  | 0=>injection hy with hy;subst hy;exact hv
  | i+1=>omega,fun i y hi hy=>by
  match i with
  | 0=>omega
  | i+1=>simp at hy⟩,by decide,rfl,ha⟩
 have hk:∀y,Gd [v] s c y→y=v∧Eh v c:=fun y hy=>by
  have e:=HV hy
  obtain ⟨_,_,_,_,ha⟩:=hy
  simp only [List.mem_singleton] at e
  subst e
  exact ⟨rfl,ha⟩
 cases ok with
 | false =>
  obtain ⟨h1,h2⟩:=h.1 rfl
  exact .inr ⟨fun ha=>h2 v (hs ha),rfl,h1⟩
 | true =>
  obtain ⟨y,h1,h2⟩:=h.2 rfl
  obtain ⟨rfl,ha⟩:=hk y h1
  have h3:=h2 #[]
  exact .inl ⟨ha,rfl,h3.exp,h3.val.kind,h3.val.text⟩
theorem EH {l:List ByteArray} (h0:l≠[]) (h1:l.length≤128) (h2:∀w∈l,w.size≤4096):FE l:=⟨h0,h1,h2⟩
theorem UK {t b:Nat} (h:t∈[1,2,3,4,7]):0<t∧(t<8∨t=b):=by simp at h;omega
theorem Qp (h:Hse W0 g w ix hb sb dk m k slot log clk cs n) (hP:Pow W0) (hE:CL W0) (hi:cs[i]?=some x) (hn:n≤190) (hD:Db g w ix st k m lg d key vs last mark clk ts nn used) (hC:Bk g w (x.b+4) x.cl 190 [.pointer (some (adr (bx m) 0)),.pointer none]) (hW:Sl w.heap Ar q dq [EW,key]) (hl:ts.length≤8) (hk:key.size≤256) (hc:0≤clk) (hc':clk≤1099511627776) (hv:∀v∈vs,v.val.text.size≤2000) :
  Ctr Tryz.prog 10 [.pointer (some (adr (bx hb) 0)),.int .i64 (i:Int),.slice q 2 dq] w (fun v w'=>∃R r g',v=.agg (Aq.enc r).toArray∧r.kind=R.kind∧r.s=R.s∧r.n=R.n∧Stq ix (Nq x [4]) g g' w w'∧Hse W0 g' w' ix hb sb dk m k slot log clk cs (n+4)∧Seen ix st m k lg d key vs last mark clk ts nn used (Gp clk) last clk R g' w'):=by
 obtain ⟨ou,hc0⟩:=h.con
 have hb:=(hc0.one i x hi).2.2.1
 exact JF h hP hE hi hn (EH (l:=[EW,key]) (by simp) (by simp) (fun z hz=>by simp only [List.mem_cons,List.not_mem_nil,or_false] at hz;rcases hz with rfl|rfl <;> first|decide|omega)) hW (fun t ht=>by simp at ht;omega)
  (fun R g1 w1 g2 w2 hw hs=>hw.stp hs (fun t ht=>by simp at ht;omega)) (fun R g1 w1 hw=>by obtain ⟨⟨r,ok,rfl,h1⟩,-⟩:=hw;exact Um h1 hv)
  (fun g1 w1 q2 d2 hS hA=>VA (hD.stp hS (fun t ht=>by simp at ht;omega)) (hC.stp hS (by simp;omega)) (by simp;omega) hA (by simp;omega) hl hk hc hc')
theorem TA (w:World):(Instr.build 28 [(0,Value.agg #[.int .i64 200,.int .i64 2000])].toArray).run Tryz.prog w=.ok (.agg #[.int .i64 200,.int .i64 2000]) w:=by kernel_rfl
theorem Rm (w:World):(Instr.build 26 [(0,Value.int .i64 200),(1,Value.int .i64 2000)].toArray).run Tryz.prog w=.ok (.agg #[.int .i64 200,.int .i64 2000]) w:=by kernel_rfl
theorem Opn.hse {W0:World} {g:Nat→Nat} {w:World} {ix hb sb dk m k lg st each nn:Nat} {cs:List Cn} {key:ByteArray} (h:Opn W0 g w ix hb sb dk m k lg st each nn cs key):Hse W0 g w ix hb sb dk m k each nn 0 cs 0:=⟨h.bs,h.hs,h.srv,_,h.con⟩
set_option maxRecDepth 20000 in
theorem JW:Ctr Tryz.prog 8 [] w (fun v w'=>v=.agg #[.int .i64 ((200:Nat):Int),.int .i64 ((2000:Nat):Int)]∧Ext w w'):=by
 refine Ac Tryz.func8 Tryz.ntmps8 rfl rfl rfl ?_
 repeat' (refine R1 ?_)
 refine Q1 ?_;refine Q7 T.zero28 ?_;intro a0 w1 ha0 hA0 hx1 hs1
 repeat' (first|(refine Q1 ?_;first|(apply Zi;exact rfl;exact Rm;exact rfl)|(apply Zi;exact rfl;exact TA;exact rfl))|refine R1 ?_|fail)
 refine Q1 ?_;refine Q5 T.z28 hA0 ?_;intro w2 hA0 hg2 hs2
 replace hA0:Blk w2.heap a0 28 [.int .i64 200,.int .i64 2000]:=hA0
 repeat' (first|refine R1 ?_|refine R2 ?_|fail)
 refine Ze Tryz.results8 ⟨_,_,_,rfl,rfl,Ae T.a28 (by assumption) rfl,rfl⟩ ?_
 exact ⟨rfl,hx1.own hg2 (fun k hk=>by injection hk;omega)⟩
theorem LY {a n:Int} (hn:0<n) (hn':n≤1000) (_:AC a):Ctr Tryz.prog 9 [.int .i64 a,.int .i64 n] w (fun v w'=>v=.int .i64 (a % n)∧w=w'):=by
 have h1:-n<a.tmod n:=by
  have:=Int.tmod_lt_of_pos (-a) hn
  rw [Int.neg_tmod] at this
  omega
 have h2:a.tmod n<n:=Int.tmod_lt_of_pos a hn
 have e:(a.tmod n+n).tmod n=a % n:=by
  rw [Int.tmod_eq_emod_of_nonneg (by omega),Int.add_emod_right]
  by_cases h0:0≤a
  ·rw [Int.tmod_eq_emod_of_nonneg h0,Int.emod_emod_of_dvd _ (Int.dvd_refl n)]
  ·have h3:a.tmod n = -((-a) % n):=by
    have:a = -(-a):=by omega
    rw [this,Int.neg_tmod,Int.tmod_eq_emod_of_nonneg (by omega)]
    simp
   rw [h3]
   have h4:(-a)=n * ((-a) / n)+(-a) % n:=(Int.mul_ediv_add_emod (-a) n).symm
   have h5:-((-a) % n)=a+n * ((-a) / n):=by omega
   rw [h5,Int.add_mul_emod_self_left]
 refine Ac Tryz.func9 Tryz.ntmps9 rfl rfl rfl ?_
 repeat' (first|refine R1 ?_|refine R2 ?_|fail)
 refine Kr Tryz.results9 ?_
 exact ⟨by rw [e];rfl,rfl⟩
open Go.V
attribute [local irreducible] Blk Own hcell Ao Ab Ak Ad Ap Aa Ag EqT Au
def AppO (used secs nn last:Nat) (e:Int) (used' last':Nat):Prop:=e=0∧used+secs≤nn∧used'=used+secs∧last'=last+1∨e=22∧nn<used+secs∧used'=used∧last'=last
theorem Lc {ix:Nat} {g:Nat→Nat} {w:World} {d lg st nn used last num c:Nat} {ds:List Sec} {p:Option Addr} {bs:List UInt8} (hD:AZ g w d ds []) (hL:Bk g w 2 lg 162 (lgC d st nn used last)) (hb:SlJ g w p c bs) (hlen:bs.length≤500000) (hds:ds.length≤65536)
  (hnum:num=last+1) (hlast:last≤1000000) (hu:used≤nn) (hnn:st+nn≤ds.length) :
  Ctr Tryz.prog 600 [.pointer (some (adr (bx lg) 0)),.int .i64 (num:Int),.slice p bs.length c] w (fun v w'=>∃e used' last',v=.int .i64 e∧∃g' ds',Stq ix [1,2] g g' w w'∧AZ g' w' d ds' []∧ds'.length=ds.length∧Bk g' w' 2 lg 162 (lgC d st nn used' last')∧AppO used (DX bs.length) nn last e used' last'):=by
 by_cases hroom:used+DX bs.length≤nn
 ·refine (PG (ix:=ix) hD hL hb hlen hds hnum hlast hroom hnn).mono ?_
  rintro v w' ⟨rfl,g',ds',hS,hD',hl,hL'⟩
  exact ⟨0,_,_,rfl,g',ds',hS,hD',hl,hL',.inl ⟨rfl,hroom,rfl,hnum⟩⟩
 ·have hLb:=hL.blk
  have hr1:Ext w.drew w.drew:=Ext.rfl'
  refine Ac Tryz.func600 Tryz.ntmps600 rfl rfl rfl ?_
  repeat' (first|refine R1 ?_|(refine Q1 ?_;first|(refine Q4 (f:=115) (hc:=Iw (by omega)) ?_;rintro _ _ ⟨rfl,rfl⟩;refine Kc ?_)|(refine Q2 (hu:=by (first|exact T.f162_5|exact T.f162_4|exact T.f162_2|exact T.f162_3)) ?_)|(refine Q3 (hu:=by (first|exact T.p4|exact T.p3)) ?_)|(refine Q31 (hu:=by (first|exact T.p4|exact T.p3)) ?_)|(refine Q44 (hu:=by (first|exact T.p4|exact T.p3)) ?_)|(refine Q9 (hu:=by (first|exact T.p4|exact T.p3)) ?_)|(refine Q6 (hu:=T.s40) ?_))|refine R2 ?_|(apply Za;exact rfl;all_goals (intro h;try (exfalso;omega)))|(apply Zy;exact rfl;all_goals intro h)|((fail_if_success (refine Q1 ?_));apply Zb;exact rfl;exact rfl;all_goals (intro h;try (exfalso;omega)))|((fail_if_success (refine Q1 ?_));apply ZW;exact rfl;exact rfl;all_goals intro h)|refine Zf 1 [] [0,1,3,4,5,6,7,8,9,10,11,2,12,13] mixed (by decide +kernel) ?_|refine Zf 1 [] [0,1,2,3,4,5,6,7,8,9,10] mixed (by decide +kernel) ?_|fail)
  all_goals try (exfalso;simp only at *;omega)
  refine Kr Tryz.results600 ?_
  have hx1:Ext w w.drew:=Ext.drew Ext.rfl'
  exact ⟨22,used,last,rfl,_,ds,Stq.of_ext hx1 0,hD.ext hx1 0,rfl,hL.ext hx1 0,.inr ⟨rfl,by omega,rfl,rfl⟩⟩
theorem Np {ix:Nat} {g:Nat→Nat} {w:World} {k lg d st nn used last num c:Nat} {sv:Value} {ds:List Sec} {p:Option Addr} {xs:List Wt} (hK:BX g w k lg d st nn used last sv ds) (hS:Sl w.heap eWt p c xs) (hn:xs.length≤20) (hT:∀x∈xs,x.key.size≤4096∧(x.gone=false→Dk x.val))
  (hnum:num=last+1) (hlast:last≤1000000) (hu:used≤nn) :
  Ctr Tryz.prog 599 [.pointer (some (adr (bx k) 0)),.int .i64 (num:Int),.slice p xs.length c] w (fun v w'=>∃e used' last',v=.int .i64 e∧∃g' ds',Stq ix [1,2] g g' w w'∧BX g' w' k lg d st nn used' last' sv ds'∧ds'.length=ds.length∧AppO used (DX (xs.map Cu).sum) nn last e used' last'):=by
 have hkb:=hK.box.blk
 have hl0:(xs.map Cu).sum≤180000:=by
  have:=OL (xs:=xs) (fun x hx=>QW (hT x hx).1 (hT x hx).2)
  omega
 have hx1:Ext w w.drew:=Ext.drew Ext.rfl'
 have hkb1:=hkb.ext hx1
 refine Ac Tryz.func599 Tryz.ntmps599 rfl rfl rfl ?_
 repeat' (first|refine R1 ?_|(refine Q1 ?_;first|(refine Q2 (hu:=T.f117_0) ?_)|(refine Q3 (hu:=T.p114) ?_)|(refine Q31 (hu:=T.p114) ?_)|(refine Q44 (hu:=T.p114) ?_)|(refine Q9 (hu:=T.p114) ?_))|refine R2 ?_|(apply Za;exact rfl;all_goals (intro h;try (exfalso;omega)))|(apply Zy;exact rfl;all_goals intro h)|((fail_if_success (refine Q1 ?_));apply Zb;exact rfl;exact rfl;all_goals (intro h;try (exfalso;omega)))|((fail_if_success (refine Q1 ?_));apply ZW;exact rfl;exact rfl;all_goals intro h)|fail)
 refine Zl 2 [] (.node [0,1,2,4,5] (.alt 3 (.leaf [6,7,8]) (.alt 6 (.leaf [3,7,8]) .stop))) mixed (by decide +kernel) ?_
 repeat' (first|refine R1 ?_|(refine Q1 ?_;first|(refine Q2 (hu:=T.f117_0) ?_)|(refine Q3 (hu:=T.p114) ?_)|(refine Q31 (hu:=T.p114) ?_)|(refine Q44 (hu:=T.p114) ?_)|(refine Q9 (hu:=T.p114) ?_))|(refine Zj ?_)|(refine Zp ?_)|(apply Zv)|refine R2 ?_|(exact Zq)|(apply Za;exact rfl;all_goals (intro h;try (exfalso;omega)))|(apply Zy;exact rfl;all_goals intro h)|((fail_if_success (refine Q1 ?_));apply Zb;exact rfl;exact rfl;all_goals (intro h;try (exfalso;omega)))|((fail_if_success (refine Q1 ?_));apply ZW;exact rfl;exact rfl;all_goals intro h)|fail)
 all_goals
  refine Q1 ?_;refine Q4 (hc:=RP (hS.ext hx1) hn hT) ?_;rintro _ w2 ⟨p2,c2,bs2,rfl,ho2,hx2,hl2⟩;refine Kc ?_
  have hx02:=hx1.trans hx2
  have hkb2:=hkb.ext hx02
  have hS2:Stq ix [1,2] g (rt g w 0) w w2:=Stq.of_ext hx02 0
  have ho2':Go.V.Own w2 w.heap.size 5 Ai p2 c2 bs2:=ho2
  have hK2:=hK.ext hx02 0
  repeat' (first|refine R1 ?_|(refine Q1 ?_;first|(refine Q2 (hu:=T.f117_0) ?_)|(refine Q3 (hu:=T.p114) ?_)|(refine Q31 (hu:=T.p114) ?_)|(refine Q44 (hu:=T.p114) ?_)|(refine Q9 (hu:=T.p114) ?_))|(refine Zj ?_)|(refine Zp ?_)|(apply Zv)|refine R2 ?_|(exact Zq)|(apply Za;exact rfl;all_goals (intro h;try (exfalso;omega)))|(apply Zy;exact rfl;all_goals intro h)|((fail_if_success (refine Q1 ?_));apply Zb;exact rfl;exact rfl;all_goals (intro h;try (exfalso;omega)))|((fail_if_success (refine Q1 ?_));apply ZW;exact rfl;exact rfl;all_goals intro h)|fail)
  refine Q1 ?_;refine Q4 (hc:=Lc (ix:=ix) hK2.disk hK2.log (SlJ.own ho2') (by omega) hK2.big hnum hlast hu hK2.fit) ?_;rintro _ w3 ⟨e,u3,l3,rfl,g3,ds3,hS3,hD3,hl3,hL3,hO3⟩;refine Kc ?_
  repeat' (first|refine R1 ?_|(refine Q1 ?_;first|(refine Q2 (hu:=T.f117_0) ?_)|(refine Q3 (hu:=T.p114) ?_)|(refine Q31 (hu:=T.p114) ?_)|(refine Q44 (hu:=T.p114) ?_)|(refine Q9 (hu:=T.p114) ?_))|(refine Zj ?_)|(refine Zp ?_)|(apply Zv)|refine R2 ?_|(exact Zq)|(apply Za;exact rfl;all_goals (intro h;try (exfalso;omega)))|(apply Zy;exact rfl;all_goals intro h)|((fail_if_success (refine Q1 ?_));apply Zb;exact rfl;exact rfl;all_goals (intro h;try (exfalso;omega)))|((fail_if_success (refine Q1 ?_));apply ZW;exact rfl;exact rfl;all_goals intro h)|fail)
  refine Kr Tryz.results599 ?_
  rw [hl2] at hO3
  exact ⟨e,u3,l3,rfl,g3,ds3,hS2.trans hS3,⟨hK2.box.stp hS3 (by decide),hL3,hD3,by rw [hl3];exact hK.big,by rw [hl3];exact hK.fit⟩,hl3,hO3⟩
theorem OW {lg d sg nn used last num c:Nat} {sv:Value} {ds:List Sec} {p:Option Addr} {xs:List Wt} (hM:AL g w m st k clk ts) (hK:BX g w k lg d sg nn used last sv ds) (hS:Sl w.heap eWt p c xs) (hn:xs.length≤20) (hT:∀x∈xs,x.key.size≤4096∧(x.gone=false→Dk x.val))
  (hnum:num=last+1) (hlast:last≤1000000) (hu:used≤nn) :
  Ctr Tryz.prog 332 [.pointer (some (adr (bx m) 0)),.int .i64 (num:Int),.slice p xs.length c] w (fun v w'=>∃e used' last',v=.int .i64 e∧∃g' ds',Stq ix [1,2] g g' w w'∧BX g' w' k lg d sg nn used' last' sv ds'∧ds'.length=ds.length∧AppO used (DX (xs.map Cu).sum) nn last e used' last'):=by
 have hM0:=hM
 obtain ⟨⟨pa,ca,h1,h2⟩,h3,h6,h7⟩:=hM
 have hb:=h1.blk
 refine Ez Tryz.func332 Tryz.ntmps332 rfl rfl rfl ?_
 repeat' (first|refine R1 ?_|(refine Q1 ?_;first|(refine Q2 (hu:=T.f54_1) ?_)|(refine Q3 (hu:=T.p51) ?_)|(refine Q31 (hu:=T.p51) ?_)|(refine Q44 (hu:=T.p51) ?_)|(refine Q9 (hu:=T.p51) ?_))|refine R2 ?_|(apply Za;exact rfl;all_goals (intro h;try (exfalso;omega)))|(apply Zy;exact rfl;all_goals intro h)|((fail_if_success (refine Q1 ?_));apply Zb;exact rfl;exact rfl;all_goals (intro h;try (exfalso;omega)))|((fail_if_success (refine Q1 ?_));apply ZW;exact rfl;exact rfl;all_goals intro h)|fail)
 refine Q1 ?_;refine Q7 T.zero58 ?_;intro a6 w1 ha6 hA6 hx1 hs1
 have hb1:=hb.ext hx1
 have hK1:=hK.ext hx1 0
 have hS1:Stq ix [1,2] g (rt g w 0) w w1:=Stq.of_ext hx1 0
 have hB6:Bk (rt g w 0) w1 0 a6 58 _:=Bk.new hA6 (by omega) (by unfold ixT;decide)
 repeat' (first|refine R1 ?_|(refine Q1 ?_;first|refine Q40 ?_|(refine Q3 (hu:=T.p51) (hb:=hb1) ?_)|(refine Q2 (hu:=T.f54_1) ?_)|(refine Q3 (hu:=T.p51) ?_)|(refine Q31 (hu:=T.p51) ?_)|(refine Q44 (hu:=T.p51) ?_)|(refine Q9 (hu:=T.p51) ?_))|refine R2 ?_|(apply Za;exact rfl;all_goals (intro h;try (exfalso;omega)))|(apply Zy;exact rfl;all_goals intro h)|((fail_if_success (refine Q1 ?_));apply Zb;exact rfl;exact rfl;all_goals (intro h;try (exfalso;omega)))|((fail_if_success (refine Q1 ?_));apply ZW;exact rfl;exact rfl;all_goals intro h)|fail)
 refine Q1 ?_
 refine Q38 (Sb _ _) (Np (ix:=ix) hK1 (hS.ext hx1) hn hT hnum hlast hu) ?_
 rintro _ w2 ⟨e,u2,l2,rfl,g2,ds2,hS2,hK2,hl2,hO2⟩
 refine ⟨.inl rfl,?_⟩
 have hB62:=hB6.stp hS2 (by decide)
 have hb62:=hB62.blk
 repeat' (first|refine R1 ?_|(refine Q1 ?_;first|(refine Q2 (hu:=T.f54_1) ?_)|(refine Q3 (hu:=T.p51) ?_)|(refine Q31 (hu:=T.p51) ?_)|(refine Q44 (hu:=T.p51) ?_)|(refine Q9 (hu:=T.p51) ?_))|refine R2 ?_|(apply Za;exact rfl;all_goals (intro h;try (exfalso;omega)))|(apply Zy;exact rfl;all_goals intro h)|((fail_if_success (refine Q1 ?_));apply Zb;exact rfl;exact rfl;all_goals (intro h;try (exfalso;omega)))|((fail_if_success (refine Q1 ?_));apply ZW;exact rfl;exact rfl;all_goals intro h)|fail)
 refine Q1 ?_;refine Q5 T.z58 hb62 ?_;intro w3 hA3 hg3 hs3
 replace hA3:Blk w3.heap a6 58 [.int .i64 e]:=hA3
 have hS3:=hB62.stpG (T:=[0]) (ix:=ix) hg3 0 (by decide)
 have hSS:=(hS1.trans hS2).own hg3 (by omega) 0
 have hK3:=hK2.stp hS3 (by decide) (by decide) (by decide)
 repeat' (first|refine R1 ?_|(refine Q1 ?_;first|(refine Q2 (hu:=T.f54_1) ?_)|(refine Q3 (hu:=T.p51) ?_)|(refine Q31 (hu:=T.p51) ?_)|(refine Q44 (hu:=T.p51) ?_)|(refine Q9 (hu:=T.p51) ?_))|refine R2 ?_|(apply Za;exact rfl;all_goals (intro h;try (exfalso;omega)))|(apply Zy;exact rfl;all_goals intro h)|((fail_if_success (refine Q1 ?_));apply Zb;exact rfl;exact rfl;all_goals (intro h;try (exfalso;omega)))|((fail_if_success (refine Q1 ?_));apply ZW;exact rfl;exact rfl;all_goals intro h)|fail)
 refine ZE Tryz.results332 rfl (TQ rfl) (fun w4 hx4=>?_)
 have hA4:=hA3.ext hx4
 have hK4:=hK3.ext hx4 0
 have hS4:=hSS.trans (Stq.of_ext (ix:=ix) (T:=[1,2]) hx4 0)
 exact ⟨_,⟨_,_,_,rfl,rfl,AU T.p58 hA4,rfl⟩,e,u2,l2,rfl,_,ds2,hS4,hK4,hl2,hO2⟩
def NW (vs:List Ver) (last used nn:Nat) (x:Wt) (e:Int) (vs':List Ver) (last' used':Nat):Prop :=
 e=0∧used+DX (Cu x)≤nn∧vs'=vs++[x.v (last+1:Nat)]∧last'=last+1∧used'=used+DX (Cu x)∨e=22∧nn<used+DX (Cu x)∧vs'=vs∧last'=last∧used'=used
theorem Lt {key:ByteArray} {vs:List Ver} {last mark lg d sg nn used:Nat} {sv:Value} {ds:List Sec} {x:Wt} (hM:AL g w m st k clk ts) (hi:ts[i]?=some a) (hp:BF g w a.mp (some x)) (hS:Cf g w st ix key vs last mark) (hK:BX g w k lg d sg nn used last sv ds) (hk:x.key=key) (hcl:lastOf vs vs.length≤a.start) (hl:vs.length≤59) (hfit:last+1≤100000) (hu:used≤nn) :
  Ctr Tryz.prog 220 [.pointer (some (adr (bx m) 0)),.pointer (some (adr (bx a.t) 0))] w (fun v w'=>∃n' e vs' last' used',v=.tuple #[.int .i64 n',.int .i64 e]∧∃g' ds',Stq ix [1,2,3,4] g g' w w'∧AL g' w' m st k clk (ts.take i++ts.drop (i+1))∧Cf g' w' st ix key vs' last' mark ∧
   BX g' w' k lg d sg nn used' last' sv ds'∧ds'.length=ds.length∧NW vs last used nn x e vs' last' used'):=by
 have ha:=hM.act a (List.mem_of_getElem? hi)
 have hx:=hp.ok x rfl
 subst hk
 refine Ac Tryz.func220 Tryz.ntmps220 rfl rfl rfl ?_
 repeat' (first|refine R1 ?_|(refine Q1 ?_;first|(refine Q2 (hu:=by (first|exact T.f111_4|exact T.f54_0|exact T.f111_1)) ?_)|(refine Q3 (hu:=by (first|exact T.p109|exact T.p49|exact T.p3)) ?_)|(refine Q31 (hu:=by (first|exact T.p109|exact T.p49|exact T.p3)) ?_)|(refine Q44 (hu:=by (first|exact T.p109|exact T.p49|exact T.p3)) ?_)|(refine Q9 (hu:=by (first|exact T.p109|exact T.p49|exact T.p3)) ?_))|refine R2 ?_|(apply Za;exact rfl;all_goals (intro h;try (exfalso;omega)))|(apply Zy;exact rfl;all_goals intro h)|((fail_if_success (refine Q1 ?_));apply Zb;exact rfl;exact rfl;all_goals (intro h;try (exfalso;omega)))|((fail_if_success (refine Q1 ?_));apply ZW;exact rfl;exact rfl;all_goals intro h)|refine Zf 1 [] [0,1,2,3,4,6,7,8,9,5,10] mixed (by decide +kernel) ?_|refine Zf 1 [] [0,1,2,3,4,5,6,7] mixed (by decide +kernel) ?_|refine Zf 1 [] [0,1,2,3,4,5,6,7,8,9,10] mixed (by decide +kernel) ?_|fail)
 refine Q1 ?_;refine Q4 (hc:=QI (ix:=ix) hM hi) ?_;rintro _ w1 ⟨rfl,g1,hS1,hM1⟩;refine Kc ?_
 have hp1:=hp.stp hS1 (by decide)
 have ha1:=ha.stp hS1 (by decide)
 have hs1:=hS.stp hS1 (by decide)
 have hk1:=hK.stp hS1 (by decide) (by decide) (by decide)
 have hmap:=hp1.map
 have hab:Blk w1.heap a.t 111 [.pointer (some (adr (bx m) 0)),.int .i64 a.start,.int .i64 a.clk,.bool a.ro,.map (some a.mp)]:=ha1.blk
 obtain ⟨⟨pa,ca,hm1,hm2⟩,_,_,_⟩:=id hM1
 obtain ⟨⟨F,hF,hFt⟩,hst⟩:=id hs1
 have hmb:=hm1.blk
 have hTB:Gg w1 a.t m a.start a.clk a.ro a.mp (some x):=⟨hab,hmap,hp1.ok⟩
 repeat' (first|refine R1 ?_|(refine Q1 ?_;first|(refine Q79 Tryz.underlying109 hmap (t:=109) ?_)|(refine Q86 Tryz.underlying109 EC hmap.mapV ?_;intro w2 cnt hR2 hx2 hz2)|(refine Q2 (hu:=by (first|exact T.f111_4|exact T.f54_0|exact T.f111_1)) ?_)|(refine Q3 (hu:=by (first|exact T.p109|exact T.p49|exact T.p3)) ?_)|(refine Q31 (hu:=by (first|exact T.p109|exact T.p49|exact T.p3)) ?_)|(refine Q44 (hu:=by (first|exact T.p109|exact T.p49|exact T.p3)) ?_)|(refine Q9 (hu:=by (first|exact T.p109|exact T.p49|exact T.p3)) ?_))|refine R2 ?_|(apply Za;exact rfl;all_goals (intro h;try (exfalso;omega)))|(apply Zy;exact rfl;all_goals intro h)|((fail_if_success (refine Q1 ?_));apply Zb;exact rfl;exact rfl;all_goals (intro h;try (exfalso;omega)))|((fail_if_success (refine Q1 ?_));apply ZW;exact rfl;exact rfl;all_goals intro h)|refine Zf 1 [] [0,1,2,3,4,6,7,8,9,5,10] mixed (by decide +kernel) ?_|refine Zf 1 [] [0,1,2,3,4,5,6,7] mixed (by decide +kernel) ?_|refine Zf 1 [] [0,1,2,3,4,5,6,7,8,9,10] mixed (by decide +kernel) ?_|fail)
 all_goals try (exfalso;simp [IM] at *;done)
 have eo:Gy (IM (some x)) (Cm x.key)=some (.agg (AO.enc (x.ver x.stamp)).toArray):=by simp only [IM,Gy];exact Ht _ _ _
 have eo':∀kl v,Gy (IM (some x)) kl=some v→kl=Cm x.key:=by
  intro kl v h
  simp only [IM,Gy,MR] at h
  by_cases e:kl=Cm x.key
  ·exact e
  ·rw [if_neg e] at h;cases h
 refine Zm ?_
 refine Zn [(0,.pointer (some (adr (bx m) 0))),(1,.pointer (some (adr (bx a.t) 0))),(23,.pointer (some ⟨w1.heap.size,0,none⟩))] ⟨rfl,rfl,rfl,trivial⟩ ?_
 repeat' (first|refine R1 ?_|(refine Q1 ?_;first|(refine Q2 (hu:=by (first|exact T.f111_4|exact T.f54_0|exact T.f111_1)) ?_)|(refine Q3 (hu:=by (first|exact T.p109|exact T.p49|exact T.p3)) ?_)|(refine Q31 (hu:=by (first|exact T.p109|exact T.p49|exact T.p3)) ?_)|(refine Q44 (hu:=by (first|exact T.p109|exact T.p49|exact T.p3)) ?_)|(refine Q9 (hu:=by (first|exact T.p109|exact T.p49|exact T.p3)) ?_))|refine R2 ?_|(apply Za;exact rfl;all_goals (intro h;try (exfalso;omega)))|(apply Zy;exact rfl;all_goals intro h)|((fail_if_success (refine Q1 ?_));apply Zb;exact rfl;exact rfl;all_goals (intro h;try (exfalso;omega)))|((fail_if_success (refine Q1 ?_));apply ZW;exact rfl;exact rfl;all_goals intro h)|refine Zf 1 [] [0,1,2,3,4,6,7,8,9,5,10] mixed (by decide +kernel) ?_|refine Zf 1 [] [0,1,2,3,4,5,6,7] mixed (by decide +kernel) ?_|refine Zf 1 [] [0,1,2,3,4,5,6,7,8,9,10] mixed (by decide +kernel) ?_|fail)
 refine Q1 ?_
 apply Zae;exact EC;exact rfl;exact hR2;exact rfl;exact rfl;exact rfl
 ·intro hleft
  have h1:=hleft (Cm x.key)
  rw [eo] at h1;cases h1
 ·intro kv kl v w3 cnt' hkey hleft hf hR3 _ hg3 hz3 hen
  obtain ⟨s',rfl,rfl,_⟩:=Go.WideMaps.string_of_keyOf Tryz.underlying9 hkey
  obtain rfl:s'=x.key:=by
   have h1:=eo' _ _ hf
   exact Classical.not_not.1 (fun hn=>GH hn h1)
  have hx13:Ext w1 w3:=hx2.own hg3 (fun k hk=>by injection hk;omega)
  have hx13d:Ext w1 w3.drew:=Ext.drew hx13
  have hm3:=hmb.ext hx13d
  have hF3:=hF.ext hx13d
  have hab3:=hab.ext hx13d
  repeat' (first|refine R1 ?_|(refine Q1 ?_;first|refine Q72 hen ?_|(refine Q4 (f:=331) (hc:=SI hF3) ?_;rintro _ w4 ⟨rfl,hx4⟩;refine Kc ?_;replace hab3:=hab3.ext (Kx hx4))|(refine Q2 (hu:=by (first|exact T.f111_4|exact T.f54_0|exact T.f111_1)) ?_)|(refine Q3 (hu:=by (first|exact T.p109|exact T.p49|exact T.p3)) ?_)|(refine Q31 (hu:=by (first|exact T.p109|exact T.p49|exact T.p3)) ?_)|(refine Q44 (hu:=by (first|exact T.p109|exact T.p49|exact T.p3)) ?_)|(refine Q9 (hu:=by (first|exact T.p109|exact T.p49|exact T.p3)) ?_))|refine R2 ?_|(apply Za;exact rfl;all_goals (intro h;try (exfalso;omega)))|(apply Zy;exact rfl;all_goals intro h)|((fail_if_success (refine Q1 ?_));apply Zb;exact rfl;exact rfl;all_goals (intro h;try (exfalso;omega)))|((fail_if_success (refine Q1 ?_));apply ZW;exact rfl;exact rfl;all_goals intro h)|refine Zf 1 [] [0,1,2,3,4,6,7,8,9,5,10] mixed (by decide +kernel) ?_|refine Zf 1 [] [0,1,2,3,4,5,6,7] mixed (by decide +kernel) ?_|refine Zf 1 [] [0,1,2,3,4,5,6,7,8,9,10] mixed (by decide +kernel) ?_|fail)
  all_goals try (exfalso;omega)
  refine Zg ?_
  have hx34:Ext w3 w4:=(Ext.drew Ext.rfl').trans hx4
  have hR4:=hR3.ext hx34
  repeat' (first|refine R1 ?_|(refine Q1 ?_;first|(refine Q2 (hu:=by (first|exact T.f111_4|exact T.f54_0|exact T.f111_1)) ?_)|(refine Q3 (hu:=by (first|exact T.p109|exact T.p49|exact T.p3)) ?_)|(refine Q31 (hu:=by (first|exact T.p109|exact T.p49|exact T.p3)) ?_)|(refine Q44 (hu:=by (first|exact T.p109|exact T.p49|exact T.p3)) ?_)|(refine Q9 (hu:=by (first|exact T.p109|exact T.p49|exact T.p3)) ?_))|refine R2 ?_|(apply Za;exact rfl;all_goals (intro h;try (exfalso;omega)))|(apply Zy;exact rfl;all_goals intro h)|((fail_if_success (refine Q1 ?_));apply Zb;exact rfl;exact rfl;all_goals (intro h;try (exfalso;omega)))|((fail_if_success (refine Q1 ?_));apply ZW;exact rfl;exact rfl;all_goals intro h)|refine Zf 1 [] [0,1,2,3,4,6,7,8,9,5,10] mixed (by decide +kernel) ?_|refine Zf 1 [] [0,1,2,3,4,5,6,7] mixed (by decide +kernel) ?_|refine Zf 1 [] [0,1,2,3,4,5,6,7,8,9,10] mixed (by decide +kernel) ?_|fail)
  refine Q1 ?_
  apply Zae;exact EC;exact rfl;exact hR4;exact rfl;exact rfl;exact rfl
  ·intro _
   have hx14:Ext w1 w4:=hx13.trans hx34
   have hx14d:Ext w1 w4.drew:=Ext.drew hx14
   have hTB4:=hTB.ext hx14d
   have hm4:=hmb.ext hx14d
   repeat' (first|refine R1 ?_|(refine Q1 ?_;first|(refine Q4 (f:=219) (hc:=Ea hTB4) ?_;rintro _ w5 ⟨p5,c5,xs5,rfl,hSl5,_,hxs5,hx5⟩;refine Kc ?_;replace hm4:=hm4.ext (Kx hx5))|(refine Q2 (hu:=by (first|exact T.f111_4|exact T.f54_0|exact T.f111_1)) ?_)|(refine Q3 (hu:=by (first|exact T.p109|exact T.p49|exact T.p3)) ?_)|(refine Q31 (hu:=by (first|exact T.p109|exact T.p49|exact T.p3)) ?_)|(refine Q44 (hu:=by (first|exact T.p109|exact T.p49|exact T.p3)) ?_)|(refine Q9 (hu:=by (first|exact T.p109|exact T.p49|exact T.p3)) ?_))|refine R2 ?_|(apply Za;exact rfl;all_goals (intro h;try (exfalso;omega)))|(apply Zy;exact rfl;all_goals intro h)|((fail_if_success (refine Q1 ?_));apply Zb;exact rfl;exact rfl;all_goals (intro h;try (exfalso;omega)))|((fail_if_success (refine Q1 ?_));apply ZW;exact rfl;exact rfl;all_goals intro h)|refine Zf 1 [] [0,1,2,3,4,6,7,8,9,5,10] mixed (by decide +kernel) ?_|refine Zf 1 [] [0,1,2,3,4,5,6,7] mixed (by decide +kernel) ?_|refine Zf 1 [] [0,1,2,3,4,5,6,7,8,9,10] mixed (by decide +kernel) ?_|fail)
   obtain ⟨y5,rfl,hy5⟩:=hxs5 x rfl
   have hx15:=hx14d.trans hx5
   refine Q1 ?_;refine Q4 (hc:=UN (hF.ext hx15) hy5.ok hy5.key hSl5 hl) ?_;rintro _ w6 ⟨rfl,hx6⟩;refine Kc ?_
   have hx16:=hx15.trans hx6
   have hTB6:=hTB.ext hx16
   have hm6:=hmb.ext hx16
   have hF6:=hF.ext hx16
   have hFf:=hF.fit
   repeat' (first|refine R1 ?_|(refine Q1 ?_;first|(refine Q4 (f:=15) (hc:=GJ hF6) ?_;rintro _ _ ⟨rfl,rfl⟩;refine Kc ?_)|(refine Q4 (f:=219) (hc:=Ea hTB6) ?_;rintro _ w7 ⟨p7,c7,xs7,rfl,hSl7,_,hxs7,hx7⟩;refine Kc ?_;replace hm6:=hm6.ext (Kx hx7))|(refine Q2 (hu:=by (first|exact T.f111_4|exact T.f54_0|exact T.f111_1)) ?_)|(refine Q3 (hu:=by (first|exact T.p109|exact T.p49|exact T.p3)) ?_)|(refine Q31 (hu:=by (first|exact T.p109|exact T.p49|exact T.p3)) ?_)|(refine Q44 (hu:=by (first|exact T.p109|exact T.p49|exact T.p3)) ?_)|(refine Q9 (hu:=by (first|exact T.p109|exact T.p49|exact T.p3)) ?_))|refine R2 ?_|(apply Za;exact rfl;all_goals (intro h;try (exfalso;omega)))|(apply Zy;exact rfl;all_goals intro h)|((fail_if_success (refine Q1 ?_));apply Zb;exact rfl;exact rfl;all_goals (intro h;try (exfalso;omega)))|((fail_if_success (refine Q1 ?_));apply ZW;exact rfl;exact rfl;all_goals intro h)|refine Zf 1 [] [0,1,2,3,4,6,7,8,9,5,10] mixed (by decide +kernel) ?_|refine Zf 1 [] [0,1,2,3,4,5,6,7] mixed (by decide +kernel) ?_|refine Zf 1 [] [0,1,2,3,4,5,6,7,8,9,10] mixed (by decide +kernel) ?_|fail)
   obtain ⟨y7,rfl,hy7⟩:=hxs7 x rfl
   have hx17:=hx16.trans hx7
   have hkey7:y7.key.size≤4096:=by have:=hy7.ok.key;omega
   have hw7:(List.map Cu [y7]).sum=Cu x:=by simp [Tf hy7 hx]
   refine Q1 ?_;refine Q4 (hc:=OW (ix:=ix) (num:=last+1) (xs:=[y7]) (hM1.ext hx17 0) (hk1.ext hx17 0) hSl7 (by simp) (fun z hz=>(by simp at hz;subst hz;exact ⟨hkey7,fun _=>hy7.ok.val⟩)) rfl (by omega) hu) ?_;rintro _ w8 ⟨e8,u8,l8,rfl,g8,ds8,hS8,hK8,hd8,hO8⟩;refine Kc ?_
   rw [hw7] at hO8
   have hS17:Stq ix [1,2] g1 (rt g1 w1 0) w1 w7:=Stq.of_ext hx17 0
   have hS18:=hS17.trans hS8
   have hM8:=hM1.stp hS18 (by decide) (by decide)
   have hs8:=hs1.stp hS18 (by decide)
   have hp8:=hp1.stp hS18 (by decide)
   have ha8:=ha1.stp hS18 (by decide)
   rcases hO8 with ⟨rfl,hr8,rfl,rfl⟩|⟨rfl,hr8,rfl,rfl⟩
   ·obtain ⟨⟨pb,cb,hm8,_⟩,_,_,_⟩:=id hM8
    obtain ⟨⟨F8,hF8,hFt8⟩,hst8⟩:=id hs8
    have hd8':Ext w8 w8.drew:=Ext.drew Ext.rfl'
    have hm8b:=hm8.blk.ext hd8'
    have hTB8:Gg w8 a.t m a.start a.clk a.ro a.mp (some x):=⟨ha8.blk,hp8.map,hp8.ok⟩
    repeat' (first|refine R1 ?_|(refine Q1 ?_;first|(refine Q2 (hu:=by (first|exact T.f111_4|exact T.f54_0|exact T.f111_1)) ?_)|(refine Q3 (hu:=by (first|exact T.p109|exact T.p49|exact T.p3)) ?_)|(refine Q31 (hu:=by (first|exact T.p109|exact T.p49|exact T.p3)) ?_)|(refine Q44 (hu:=by (first|exact T.p109|exact T.p49|exact T.p3)) ?_)|(refine Q9 (hu:=by (first|exact T.p109|exact T.p49|exact T.p3)) ?_))|refine R2 ?_|(apply Za;exact rfl;all_goals (intro h;try (exfalso;omega)))|(apply Zy;exact rfl;all_goals intro h)|((fail_if_success (refine Q1 ?_));apply Zb;exact rfl;exact rfl;all_goals (intro h;try (exfalso;omega)))|((fail_if_success (refine Q1 ?_));apply ZW;exact rfl;exact rfl;all_goals intro h)|fail)
    refine Zl 2 [] (.node [0,1,2,4] (.alt 3 (.leaf [5,6,7,8,9,10]) (.alt 5 (.leaf [3,6,7,8,9,10]) .stop))) mixed (by decide +kernel) ?_
    repeat' (first|refine R1 ?_|(refine Q1 ?_;first|(refine Q4 (f:=219) (hc:=Ea (hTB8.ext hd8')) ?_;rintro _ w9 ⟨p9,c9,xs9,rfl,hSl9,_,hxs9,hx9⟩;refine Kc ?_;replace hm8b:=hm8b.ext (Kx hx9))|(refine Q2 (hu:=by (first|exact T.f111_4|exact T.f54_0|exact T.f111_1)) ?_)|(refine Q3 (hu:=by (first|exact T.p109|exact T.p49|exact T.p3)) ?_)|(refine Q31 (hu:=by (first|exact T.p109|exact T.p49|exact T.p3)) ?_)|(refine Q44 (hu:=by (first|exact T.p109|exact T.p49|exact T.p3)) ?_)|(refine Q9 (hu:=by (first|exact T.p109|exact T.p49|exact T.p3)) ?_))|(refine Zj ?_)|(refine Zp ?_)|(apply Zv)|refine R2 ?_|(exact Zq)|(apply Za;exact rfl;all_goals (intro h;try (exfalso;omega)))|(apply Zy;exact rfl;all_goals intro h)|((fail_if_success (refine Q1 ?_));apply Zb;exact rfl;exact rfl;all_goals (intro h;try (exfalso;omega)))|((fail_if_success (refine Q1 ?_));apply ZW;exact rfl;exact rfl;all_goals intro h)|fail)
    all_goals
     obtain ⟨y9,rfl,hy9⟩:=hxs9 x rfl
     have hx89:=hd8'.trans hx9
     have hs9:=hs8.ext hx89 0
     have hF9:=hF8.ext hx89
     have hFt9:∀k,F8 k→rt g8 w8 0 k=3:=fun k hk=>by rw [AY (hF8.ix.typ' hk).lt];exact hFt8 k hk
     refine Q1 ?_;refine Q4 (hc:=UM hF9 hy9.ok hy9.key hSl9 hl hfit) ?_;rintro _ w10 ⟨rfl,F',hF10,hFF,hcc⟩;refine Kc ?_
     obtain ⟨hS10,hs10⟩:=Cf.turn hF9 hFt9 hs9.tag hF10 hFF hcc
     rw [hy9.v hx] at hs10
     repeat' (first|refine R1 ?_|(refine Q1 ?_;first|(refine Q2 (hu:=by (first|exact T.f111_4|exact T.f54_0|exact T.f111_1)) ?_)|(refine Q3 (hu:=by (first|exact T.p109|exact T.p49|exact T.p3)) ?_)|(refine Q31 (hu:=by (first|exact T.p109|exact T.p49|exact T.p3)) ?_)|(refine Q44 (hu:=by (first|exact T.p109|exact T.p49|exact T.p3)) ?_)|(refine Q9 (hu:=by (first|exact T.p109|exact T.p49|exact T.p3)) ?_))|(refine Zj ?_)|(refine Zp ?_)|(apply Zv)|refine R2 ?_|(exact Zq)|(apply Za;exact rfl;all_goals (intro h;try (exfalso;omega)))|(apply Zy;exact rfl;all_goals intro h)|((fail_if_success (refine Q1 ?_));apply Zb;exact rfl;exact rfl;all_goals (intro h;try (exfalso;omega)))|((fail_if_success (refine Q1 ?_));apply ZW;exact rfl;exact rfl;all_goals intro h)|fail)
     refine Kr Tryz.results220 ?_
     have hS89:Stq ix [] g8 (rt g8 w8 0) w8 w9:=Stq.of_ext hx89 0
     have hSA:=(hS89.mono (U:=[3]) (by simp)).trans hS10
     refine ⟨_,0,_,_,_,rfl,_,ds8,((hS1.mono (U:=[1,2,3,4]) (by simp)).trans (hS18.mono (U:=[1,2,3,4]) (by simp))).trans (hSA.mono (U:=[1,2,3,4]) (by simp)),hM8.stp hSA (by decide) (by decide),hs10,hK8.stp hSA (by decide) (by decide) (by decide),by rw [hd8],.inl ⟨rfl,hr8,rfl,rfl,rfl⟩⟩
   ·repeat' (first|refine R1 ?_|(refine Q1 ?_;first|(refine Q2 (hu:=by (first|exact T.f111_4|exact T.f54_0|exact T.f111_1)) ?_)|(refine Q3 (hu:=by (first|exact T.p109|exact T.p49|exact T.p3)) ?_)|(refine Q31 (hu:=by (first|exact T.p109|exact T.p49|exact T.p3)) ?_)|(refine Q44 (hu:=by (first|exact T.p109|exact T.p49|exact T.p3)) ?_)|(refine Q9 (hu:=by (first|exact T.p109|exact T.p49|exact T.p3)) ?_))|refine R2 ?_|(apply Za;exact rfl;all_goals (intro h;try (exfalso;omega)))|(apply Zy;exact rfl;all_goals intro h)|((fail_if_success (refine Q1 ?_));apply Zb;exact rfl;exact rfl;all_goals (intro h;try (exfalso;omega)))|((fail_if_success (refine Q1 ?_));apply ZW;exact rfl;exact rfl;all_goals intro h)|fail)
    refine Kr Tryz.results220 ?_
    exact ⟨0,22,vs,_,_,rfl,g8,ds8,(hS1.mono (U:=[1,2,3,4]) (by simp)).trans (hS18.mono (U:=[1,2,3,4]) (by simp)),hM8,hs8,hK8,hd8,.inr ⟨rfl,hr8,rfl,rfl,rfl⟩⟩
  ·intro kv2 kl2 v2 w5 cnt2 hkey2 hleft2 hf2
   exfalso
   have e2:=eo' _ _ hf2
   subst e2
   simp [Lit.sameKey] at hleft2
def Bw:ByteArray:=⟨#[76,79,71,70,85,76,76,32,116,104,101,32,108,111,103,32,104,97,115,32,110,111,32,114,111,111,109]⟩
def endR (e:Int):Bg:=if e=0 then Av 0 sOK 0 else Av 1 Bw 0
variable {f : Nat} {name : ByteArray} {nq : Nat} {y1 : Value} {xs : List ByteArray} {x : Wt} {Φ : Bg → Prop}
theorem Qb (hM:AL g w m st k clk ts) (hi:ts[i]?=some a) (hp:BF g w a.mp (some x)) (hC:Bk g w j cl 190 [.pointer (some (adr (bx m) 0)),y1]) (hj:j ∉ [1,2,3,4]) (hS:Cf g w st ix key vs last mark) (hK:BX g w k lg d sg nn used last sv ds) (hk:x.key=key) (hcl:lastOf vs vs.length≤a.start) (hl:vs.length≤59) (hfit:last+1≤100000) (hu:used≤nn) :
  Ctr Tryz.prog 155 [.pointer (some (adr (bx cl) 0)),.pointer (some (adr (bx a.t) 0))] w (fun v w'=>∃n' e vs' last' used',v=.tuple #[.int .i64 n',.agg (Aq.enc (endR e)).toArray]∧∃g' ds',Stq ix [1,2,3,4] g g' w w'∧AL g' w' m st k clk (ts.take i++ts.drop (i+1))∧Cf g' w' st ix key vs' last' mark ∧
   BX g' w' k lg d sg nn used' last' sv ds'∧ds'.length=ds.length∧NW vs last used nn x e vs' last' used'):=by
 have hT:=hp.txn hM (List.mem_of_getElem? hi)
 refine Ac Tryz.func155 Tryz.ntmps155 rfl rfl rfl ?_
 repeat' (first|refine R1 ?_|(refine Q1 ?_;first|(refine Q2 (hu:=by (first|exact T.f190_0|exact T.f54_0)) ?_)|(refine Q3 (hu:=by (first|exact T.p46|exact T.p49)) ?_)|(refine Q31 (hu:=by (first|exact T.p46|exact T.p49)) ?_)|(refine Q44 (hu:=by (first|exact T.p46|exact T.p49)) ?_)|(refine Q9 (hu:=by (first|exact T.p46|exact T.p49)) ?_))|refine R2 ?_|(apply Za;exact rfl;all_goals (intro h;try (exfalso;omega)))|(apply Zy;exact rfl;all_goals intro h)|((fail_if_success (refine Q1 ?_));apply Zb;exact rfl;exact rfl;all_goals (intro h;try (exfalso;omega)))|((fail_if_success (refine Q1 ?_));apply ZW;exact rfl;exact rfl;all_goals intro h)|fail)
 refine Q1 ?_;refine Q7 T.zero33 ?_;intro a5 w1 ha5 hA5 hx1 hs1
 have hC1:=hC.blk.ext hx1
 repeat' (first|refine R1 ?_|(refine Q1 ?_;first|(refine Q4 (f:=219) (hc:=OG (hT.ext hx1)) ?_;rintro _ w2 ⟨p2,c2,xs2,rfl,hO2,_,hxs2,hx2⟩;refine Kc ?_;replace hC1:=hC1.ext (Kx hx2))|(refine Q2 (hu:=by (first|exact T.f190_0|exact T.f54_0)) ?_)|(refine Q3 (hu:=by (first|exact T.p46|exact T.p49)) ?_)|(refine Q31 (hu:=by (first|exact T.p46|exact T.p49)) ?_)|(refine Q44 (hu:=by (first|exact T.p46|exact T.p49)) ?_)|(refine Q9 (hu:=by (first|exact T.p46|exact T.p49)) ?_))|refine R2 ?_|(apply Za;exact rfl;all_goals (intro h;try (exfalso;omega)))|(apply Zy;exact rfl;all_goals intro h)|((fail_if_success (refine Q1 ?_));apply Zb;exact rfl;exact rfl;all_goals (intro h;try (exfalso;omega)))|((fail_if_success (refine Q1 ?_));apply ZW;exact rfl;exact rfl;all_goals intro h)|fail)
 have hx02:=hx1.trans hx2
 have hC2:=hC.ext hx02 0
 have hSl2:SlT (rt g w 0) w2 0 eWt p2 c2 xs2:=⟨hO2.sl,fun a ha=>by
  have hbl:blk p2=some a.block:=by rw [ha];rfl
  obtain ⟨q1,q2⟩:=hO2.ge _ hbl
  have:=hx1.size
  exact ⟨q2,by rw [CU (by omega)],(Own.noB hO2 (by unfold ixT;decide) hbl).not⟩⟩
 obtain ⟨y2,rfl,hy2⟩:=hxs2 x rfl
 refine Q1 ?_;refine Q4 (hc:=Lt (ix:=ix) (hM.ext hx02 0) hi (hp.ext hx02 0) (hS.ext hx02 0) (hK.ext hx02 0) hk hcl hl hfit hu) ?_;rintro _ w3 ⟨n3,e3,vs3,l3,u3,rfl,g3,ds3,hS3,hM3,hs3,hK3,hd3,hO3⟩;refine Kc ?_
 have hB5:Bk (rt g w 0) w2 0 a5 33 _:=Bk.new (hA5.ext hx2) (by omega) (by unfold ixT;decide)
 have hB53:=hB5.stp hS3 (by decide)
 have hb53:=hB53.blk
 rcases hO3 with ⟨rfl,hr3⟩|⟨rfl,hr3,rfl,rfl,rfl⟩
 ·repeat' (first|refine R1 ?_|(refine Q1 ?_;first|(refine Q4 (f:=194) (hc:=Gw (s:=sOK)) ?_;rintro _ w4 ⟨rfl,hx4⟩;refine Kc ?_;replace hb53:=hb53.ext (Kx hx4))|(refine Q2 (hu:=by (first|exact T.f190_0|exact T.f54_0)) ?_)|(refine Q3 (hu:=by (first|exact T.p46|exact T.p49)) ?_)|(refine Q31 (hu:=by (first|exact T.p46|exact T.p49)) ?_)|(refine Q44 (hu:=by (first|exact T.p46|exact T.p49)) ?_)|(refine Q9 (hu:=by (first|exact T.p46|exact T.p49)) ?_))|refine R2 ?_|(apply Za;exact rfl;all_goals (intro h;try (exfalso;omega)))|(apply Zy;exact rfl;all_goals intro h)|((fail_if_success (refine Q1 ?_));apply Zb;exact rfl;exact rfl;all_goals (intro h;try (exfalso;omega)))|((fail_if_success (refine Q1 ?_));apply ZW;exact rfl;exact rfl;all_goals intro h)|fail)
  all_goals try (exfalso;simp only at *;omega)
  refine Q1 ?_;refine Q5 T.z33 hb53 ?_;intro w5 hA6 hg5 hs5
  replace hA6:Blk w5.heap a5 33 (Aq.enc (Av 0 sOK 0)):=hA6
  repeat' (first|refine R1 ?_|(refine Q1 ?_;first|(refine Q2 (hu:=by (first|exact T.f190_0|exact T.f54_0)) ?_)|(refine Q3 (hu:=by (first|exact T.p46|exact T.p49)) ?_)|(refine Q31 (hu:=by (first|exact T.p46|exact T.p49)) ?_)|(refine Q44 (hu:=by (first|exact T.p46|exact T.p49)) ?_)|(refine Q9 (hu:=by (first|exact T.p46|exact T.p49)) ?_))|refine R2 ?_|(apply Za;exact rfl;all_goals (intro h;try (exfalso;omega)))|(apply Zy;exact rfl;all_goals intro h)|((fail_if_success (refine Q1 ?_));apply Zb;exact rfl;exact rfl;all_goals (intro h;try (exfalso;omega)))|((fail_if_success (refine Q1 ?_));apply ZW;exact rfl;exact rfl;all_goals intro h)|fail)
  refine Ze Tryz.results155 ⟨_,_,rfl,rfl,_,_,_,rfl,rfl,Ae T.a33 (by assumption) rfl,rfl⟩ ?_
  have hB54:=hB53.ext hx4 0
  have hS5:=hB54.stpG (T:=[0]) (ix:=ix) hg5 0 (by decide)
  have hS04:=((Stq.of_ext (ix:=ix) (T:=[1,2,3,4]) (g:=g) hx02 0).trans hS3).trans (Stq.of_ext (ix:=ix) (T:=[1,2,3,4]) hx4 0)
  exact ⟨_,0,_,_,_,rfl,_,ds3,hS04.own hg5 (by omega) 0,(hM3.ext hx4 0).stp hS5 (by decide) (by decide),(hs3.ext hx4 0).stp hS5 (by decide),(hK3.ext hx4 0).stp hS5 (by decide) (by decide) (by decide),hd3,.inl ⟨rfl,hr3⟩⟩
 ·obtain ⟨⟨F3,hF3,_⟩,_⟩:=id hs3
  obtain ⟨⟨pa3,ca3,hm3,_⟩,_⟩:=id hM3
  have hSl3:=hSl2.stp hS3 (by decide)
  have hC3:=(hC2.stp hS3 hj).blk
  have hm3b:=hm3.blk
  repeat' (first|refine R1 ?_|(refine Q1 ?_;first|(refine Q4 (f:=221) (hc:=UN hF3 hy2.ok (hy2.key.trans hk) hSl3.sl hl) ?_;rintro _ w4' ⟨rfl,hx4'⟩;refine Kc ?_;replace hb53:=hb53.ext (Kx hx4'))|(refine Q4 (f:=60) (hc:=JR (s:=Bw)) ?_;rintro _ w4 ⟨rfl,hx4⟩;refine Kc ?_;replace hb53:=hb53.ext (Kx hx4))|(refine Q2 (hu:=by (first|exact T.f190_0|exact T.f54_0)) ?_)|(refine Q3 (hu:=by (first|exact T.p46|exact T.p49)) ?_)|(refine Q31 (hu:=by (first|exact T.p46|exact T.p49)) ?_)|(refine Q44 (hu:=by (first|exact T.p46|exact T.p49)) ?_)|(refine Q9 (hu:=by (first|exact T.p46|exact T.p49)) ?_))|refine R2 ?_|(apply Za;exact rfl;all_goals (intro h;try (exfalso;omega)))|(apply Zy;exact rfl;all_goals intro h)|((fail_if_success (refine Q1 ?_));apply Zb;exact rfl;exact rfl;all_goals (intro h;try (exfalso;omega)))|((fail_if_success (refine Q1 ?_));apply ZW;exact rfl;exact rfl;all_goals intro h)|fail)
  all_goals try (exfalso;simp only at *;omega)
  have hx34:=hx4'.trans hx4
  refine Q1 ?_;refine Q5 T.z33 hb53 ?_;intro w5 hA6 hg5 hs5
  replace hA6:Blk w5.heap a5 33 (Aq.enc (Av 1 Bw 0)):=hA6
  repeat' (first|refine R1 ?_|(refine Q1 ?_;first|(refine Q2 (hu:=by (first|exact T.f190_0|exact T.f54_0)) ?_)|(refine Q3 (hu:=by (first|exact T.p46|exact T.p49)) ?_)|(refine Q31 (hu:=by (first|exact T.p46|exact T.p49)) ?_)|(refine Q44 (hu:=by (first|exact T.p46|exact T.p49)) ?_)|(refine Q9 (hu:=by (first|exact T.p46|exact T.p49)) ?_))|refine R2 ?_|(apply Za;exact rfl;all_goals (intro h;try (exfalso;omega)))|(apply Zy;exact rfl;all_goals intro h)|((fail_if_success (refine Q1 ?_));apply Zb;exact rfl;exact rfl;all_goals (intro h;try (exfalso;omega)))|((fail_if_success (refine Q1 ?_));apply ZW;exact rfl;exact rfl;all_goals intro h)|fail)
  refine Ze Tryz.results155 ⟨_,_,rfl,rfl,_,_,_,rfl,rfl,Ae T.a33 (by assumption) rfl,rfl⟩ ?_
  have hB54:=hB53.ext hx34 0
  have hS5:=hB54.stpG (T:=[0]) (ix:=ix) hg5 0 (by decide)
  have hS04:=((Stq.of_ext (ix:=ix) (T:=[1,2,3,4]) (g:=g) hx02 0).trans hS3).trans (Stq.of_ext (ix:=ix) (T:=[1,2,3,4]) hx34 0)
  exact ⟨_,22,_,_,_,rfl,_,ds3,hS04.own hg5 (by omega) 0,(hM3.ext hx34 0).stp hS5 (by decide) (by decide),(hs3.ext hx34 0).stp hS5 (by decide),(hK3.ext hx34 0).stp hS5 (by decide) (by decide) (by decide),hd3,.inr ⟨rfl,hr3,rfl,rfl,rfl⟩⟩
theorem KP {R:Bg} {Ψ:Wt→Prop} (hC:Bk g w j cl 190 [.pointer (some (adr (bx m) 0)),.pointer none]) (hjT:j ∉ [1,2,3,4,7]) (hM:AL g w m st k clk ts) (hl:ts.length≤8) (hS:Cf g w st ix key vs last mark) (hQ:BX g w k lg d sg nn used last sv ds) (hA:SlT g w jw Ar q dq xs) (hjw:jw ∉ [1,2,3,4,7])
  (hvl:vs.length≤59) (hfit:last+1≤100000) (hcl:lastOf vs vs.length≤(last:Int)) (hkind:R.kind≠1) (hu:used≤nn) (hΨ:∀x,Ψ x→x.key=key)
  (hDo:∀t mp g1 w1 vw,(∃g0,Stq ix [4] g g0 w w1)→AL g1 w1 m st k clk (ts++[(⟨t,(last:Int),clk,false,mp⟩:TG)])→BF g1 w1 mp none→Cf g1 w1 st ix key vs last mark→Blk w1.heap vw 346 [.iface 108 (.pointer (some (adr (bx t) 0)))]→Sl w1.heap Ar q dq xs→Ctr Tryz.prog f [.pointer (some (adr (bx vw) 0)),.string name,.slice q xs.length dq] w1 (fun v w'=>v=.tuple #[.agg (Aq.enc R).toArray,.bool true]∧∃g' x,Stq ix [7] g1 g' w1 w'∧BF g' w' mp (some x)∧Ψ x)) :
  Ctr Tryz.prog 91 [.pointer (some (adr (bx cl) 0)),.func (.func f) #[] #[],.string name,.slice q xs.length dq] w (fun v w'=>∃e vs' last' used',v=.agg (Aq.enc (if e=0 then R else Av 1 Bw 0)).toArray∧∃g' ds' x,Ψ x∧Stq ix [1,2,3,4,7] g g' w w'∧AL g' w' m st k clk ts∧Cf g' w' st ix key vs' last' mark∧BX g' w' k lg d sg nn used' last' sv ds'∧ds'.length=ds.length∧NW vs last used nn x e vs' last' used'):=by
 have hj4:j ∉ [4]:=by simp at hjT ⊢;omega
 have hj7:j ∉ [7]:=by simp at hjT ⊢;omega
 refine Ac Tryz.func91 Tryz.ntmps91 rfl rfl rfl ?_
 repeat' (first|refine R1 ?_|(refine Q1 ?_;first|(refine Q2 (hu:=by (first|exact T.f190_1|exact T.f190_0|exact T.f33_0)) ?_)|(refine Q3 (hu:=by (first|exact T.p108|exact T.p9|exact T.p46|exact T.p3)) ?_)|(refine Q31 (hu:=by (first|exact T.p108|exact T.p9|exact T.p46|exact T.p3)) ?_)|(refine Q44 (hu:=by (first|exact T.p108|exact T.p9|exact T.p46|exact T.p3)) ?_)|(refine Q9 (hu:=by (first|exact T.p108|exact T.p9|exact T.p46|exact T.p3)) ?_)|refine Q11 T.a33 ?_|refine Q14 T.a33 ?_|(refine Bn T.a33 ?_)|refine Q34 T.a33 ?_)|refine R2 ?_|(apply Za;exact rfl;all_goals (intro h;try (exfalso;omega)))|(apply Zy;exact rfl;all_goals intro h)|((fail_if_success (refine Q1 ?_));apply Zb;exact rfl;exact rfl;all_goals (intro h;try (exfalso;omega)))|((fail_if_success (refine Q1 ?_));apply ZW;exact rfl;exact rfl;all_goals intro h)|fail)
 refine Q1 ?_;refine Q8 ?_;intro b5 w1 hb5 hB5 hx1 hs1
 replace hB5:Blk w1.heap b5 205 [.func (.func f) #[] #[]]:=hB5
 repeat' (first|refine R1 ?_|(refine Q1 ?_;first|(refine Q2 (hu:=by (first|exact T.f190_1|exact T.f190_0|exact T.f33_0)) ?_)|(refine Q3 (hu:=by (first|exact T.p108|exact T.p9|exact T.p46|exact T.p3)) ?_)|(refine Q31 (hu:=by (first|exact T.p108|exact T.p9|exact T.p46|exact T.p3)) ?_)|(refine Q44 (hu:=by (first|exact T.p108|exact T.p9|exact T.p46|exact T.p3)) ?_)|(refine Q9 (hu:=by (first|exact T.p108|exact T.p9|exact T.p46|exact T.p3)) ?_)|refine Q11 T.a33 ?_|refine Q14 T.a33 ?_|(refine Bn T.a33 ?_)|refine Q34 T.a33 ?_)|refine R2 ?_|(apply Za;exact rfl;all_goals (intro h;try (exfalso;omega)))|(apply Zy;exact rfl;all_goals intro h)|((fail_if_success (refine Q1 ?_));apply Zb;exact rfl;exact rfl;all_goals (intro h;try (exfalso;omega)))|((fail_if_success (refine Q1 ?_));apply ZW;exact rfl;exact rfl;all_goals intro h)|fail)
 refine Q1 ?_;refine Q8 ?_;intro b6 w2 hb6 hB6 hx2 hs2
 replace hB6:Blk w2.heap b6 9 [.string name]:=hB6
 repeat' (first|refine R1 ?_|(refine Q1 ?_;first|(refine Q2 (hu:=by (first|exact T.f190_1|exact T.f190_0|exact T.f33_0)) ?_)|(refine Q3 (hu:=by (first|exact T.p108|exact T.p9|exact T.p46|exact T.p3)) ?_)|(refine Q31 (hu:=by (first|exact T.p108|exact T.p9|exact T.p46|exact T.p3)) ?_)|(refine Q44 (hu:=by (first|exact T.p108|exact T.p9|exact T.p46|exact T.p3)) ?_)|(refine Q9 (hu:=by (first|exact T.p108|exact T.p9|exact T.p46|exact T.p3)) ?_)|refine Q11 T.a33 ?_|refine Q14 T.a33 ?_|(refine Bn T.a33 ?_)|refine Q34 T.a33 ?_)|refine R2 ?_|(apply Za;exact rfl;all_goals (intro h;try (exfalso;omega)))|(apply Zy;exact rfl;all_goals intro h)|((fail_if_success (refine Q1 ?_));apply Zb;exact rfl;exact rfl;all_goals (intro h;try (exfalso;omega)))|((fail_if_success (refine Q1 ?_));apply ZW;exact rfl;exact rfl;all_goals intro h)|fail)
 refine Q1 ?_;refine Q8 ?_;intro b7 w3 hb7 hB7 hx3 hs3
 replace hB7:Blk w3.heap b7 61 [.slice q xs.length dq]:=hB7
 repeat' (first|refine R1 ?_|(refine Q1 ?_;first|(refine Q2 (hu:=by (first|exact T.f190_1|exact T.f190_0|exact T.f33_0)) ?_)|(refine Q3 (hu:=by (first|exact T.p108|exact T.p9|exact T.p46|exact T.p3)) ?_)|(refine Q31 (hu:=by (first|exact T.p108|exact T.p9|exact T.p46|exact T.p3)) ?_)|(refine Q44 (hu:=by (first|exact T.p108|exact T.p9|exact T.p46|exact T.p3)) ?_)|(refine Q9 (hu:=by (first|exact T.p108|exact T.p9|exact T.p46|exact T.p3)) ?_)|refine Q11 T.a33 ?_|refine Q14 T.a33 ?_|(refine Bn T.a33 ?_)|refine Q34 T.a33 ?_)|refine R2 ?_|(apply Za;exact rfl;all_goals (intro h;try (exfalso;omega)))|(apply Zy;exact rfl;all_goals intro h)|((fail_if_success (refine Q1 ?_));apply Zb;exact rfl;exact rfl;all_goals (intro h;try (exfalso;omega)))|((fail_if_success (refine Q1 ?_));apply ZW;exact rfl;exact rfl;all_goals intro h)|fail)
 refine Q1 ?_;refine Q7 T.zero33 ?_;intro a8 w4 ha8 hA8 hx4 hs4
 have hx24:=(hx2.trans hx3).trans hx4
 have hx04:=hx1.trans hx24
 have hC4:=hC.ext hx04 0
 have hc4:=hC4.blk
 have hM4:=hM.ext hx04 0
 have hK5:Bk (rt g w 0) w4 0 b5 205 _:=Bk.new (hB5.ext hx24) (by omega) (by unfold ixT;decide)
 have hK6:Bk (rt g w 0) w4 0 b6 9 _:=Bk.new (hB6.ext (hx3.trans hx4)) (by omega) (by unfold ixT;decide)
 have hK7:Bk (rt g w 0) w4 0 b7 61 _:=Bk.new (hB7.ext hx4) (by omega) (by unfold ixT;decide)
 have hK8:Bk (rt g w 0) w4 0 a8 33 _:=Bk.new hA8 (by omega) (by unfold ixT;decide)
 have hA4:=hA.ext hx04 0
 have hQ4:=hQ.ext hx04 0
 repeat' (first|refine R1 ?_|(refine Q1 ?_;first|refine Q63 Tryz.underlying108 ?_|(refine Q2 (hu:=by (first|exact T.f190_1|exact T.f190_0|exact T.f33_0)) ?_)|(refine Q3 (hu:=by (first|exact T.p108|exact T.p9|exact T.p46|exact T.p3)) ?_)|(refine Q31 (hu:=by (first|exact T.p108|exact T.p9|exact T.p46|exact T.p3)) ?_)|(refine Q44 (hu:=by (first|exact T.p108|exact T.p9|exact T.p46|exact T.p3)) ?_)|(refine Q9 (hu:=by (first|exact T.p108|exact T.p9|exact T.p46|exact T.p3)) ?_)|refine Q11 T.a33 ?_|refine Q14 T.a33 ?_|(refine Bn T.a33 ?_)|refine Q34 T.a33 ?_)|refine R2 ?_|(apply Za;exact rfl;all_goals (intro h;try (exfalso;omega)))|(apply Zy;exact rfl;all_goals intro h)|((fail_if_success (refine Q1 ?_));apply Zb;exact rfl;exact rfl;all_goals (intro h;try (exfalso;omega)))|((fail_if_success (refine Q1 ?_));apply ZW;exact rfl;exact rfl;all_goals intro h)|fail)
 refine Q1 ?_;refine Q4 (hc:=Ho (ix:=ix) hM4 (by omega) (hS.ext hx04 0)) ?_;rintro _ w5 ⟨t,mp,g5,rfl,hS5,hM5,hp5,_,_⟩;refine Kc ?_
 have hs5:=(hS.ext hx04 0).stp hS5 (by decide)
 have hK55:=hK5.stp hS5 (by decide)
 have hK65:=hK6.stp hS5 (by decide)
 have hK75:=hK7.stp hS5 (by decide)
 have hK85:=hK8.stp hS5 (by decide)
 have hC5:=hC4.stp hS5 hj4
 have z85:=hK85.lt
 have hA5:=hA4.stp hS5 (by simp at hjw ⊢;omega)
 have hi5:(ts++[(⟨t,(last:Int),clk,false,mp⟩:TG)])[ts.length]?=some ⟨t,(last:Int),clk,false,mp⟩:=by simp
 repeat' (first|refine R1 ?_|(refine Q1 ?_;first|(refine Q2 (hu:=by (first|exact T.f190_1|exact T.f190_0|exact T.f33_0)) ?_)|(refine Q3 (hu:=by (first|exact T.p108|exact T.p9|exact T.p46|exact T.p3)) ?_)|(refine Q31 (hu:=by (first|exact T.p108|exact T.p9|exact T.p46|exact T.p3)) ?_)|(refine Q44 (hu:=by (first|exact T.p108|exact T.p9|exact T.p46|exact T.p3)) ?_)|(refine Q9 (hu:=by (first|exact T.p108|exact T.p9|exact T.p46|exact T.p3)) ?_)|refine Q11 T.a33 ?_|refine Q14 T.a33 ?_|(refine Bn T.a33 ?_)|refine Q34 T.a33 ?_)|refine R2 ?_|(apply Za;exact rfl;all_goals (intro h;try (exfalso;omega)))|(apply Zy;exact rfl;all_goals intro h)|((fail_if_success (refine Q1 ?_));apply Zb;exact rfl;exact rfl;all_goals (intro h;try (exfalso;omega)))|((fail_if_success (refine Q1 ?_));apply ZW;exact rfl;exact rfl;all_goals intro h)|fail)
 all_goals try (exfalso;simp only at *;omega)
 have hQ5:=hQ4.stp hS5 (by decide) (by decide) (by decide)
 refine Q1 ?_;refine Q22 (hc:=Pd (ix:=ix) (a:=⟨t,(last:Int),clk,false,mp⟩) hK55.blk hK65.blk hK75.blk hM5 hp5 hs5 (fun g1 w1 vw hx hM hp hS hv=>hDo t mp g1 w1 vw ⟨_,((Stq.of_ext hx04 0).trans hS5).trans (Stq.of_ext hx 0)⟩ hM hp hS hv (hA5.sl.ext hx))) ?_;rintro _ w6 ⟨rfl,g6,x,hS6,hp6,hx⟩;refine Kc ?_
 have hxk:=hΨ x hx
 have hM6:=hM5.stp hS6 (by decide) (by decide)
 have hs6:=hs5.stp hS6 (by decide)
 have hQ6:=hQ5.stp hS6 (by decide) (by decide) (by decide)
 have hK86:=hK85.stp hS6 (by decide)
 have hC6:=hC5.stp hS6 hj7
 repeat' (first|refine R1 ?_|(refine Q1 ?_;first|(refine Q2 (hu:=by (first|exact T.f190_1|exact T.f190_0|exact T.f33_0)) ?_)|(refine Q3 (hu:=by (first|exact T.p108|exact T.p9|exact T.p46|exact T.p3)) ?_)|(refine Q31 (hu:=by (first|exact T.p108|exact T.p9|exact T.p46|exact T.p3)) ?_)|(refine Q44 (hu:=by (first|exact T.p108|exact T.p9|exact T.p46|exact T.p3)) ?_)|(refine Q9 (hu:=by (first|exact T.p108|exact T.p9|exact T.p46|exact T.p3)) ?_)|refine Q11 T.a33 ?_|refine Q14 T.a33 ?_|(refine Bn T.a33 ?_)|refine Q34 T.a33 ?_)|refine R2 ?_|(apply Za;exact rfl;all_goals (intro h;try (exfalso;omega)))|(apply Zy;exact rfl;all_goals intro h)|((fail_if_success (refine Q1 ?_));apply Zb;exact rfl;exact rfl;all_goals (intro h;try (exfalso;omega)))|((fail_if_success (refine Q1 ?_));apply ZW;exact rfl;exact rfl;all_goals intro h)|fail)
 refine Q1 ?_;refine Q7 T.zero33 ?_;intro a12 w7 ha12 hA12 hx7 hs7
 repeat' (first|refine R1 ?_|(refine Q1 ?_;first|(refine Q2 (hu:=by (first|exact T.f190_1|exact T.f190_0|exact T.f33_0)) ?_)|(refine Q3 (hu:=by (first|exact T.p108|exact T.p9|exact T.p46|exact T.p3)) ?_)|(refine Q31 (hu:=by (first|exact T.p108|exact T.p9|exact T.p46|exact T.p3)) ?_)|(refine Q44 (hu:=by (first|exact T.p108|exact T.p9|exact T.p46|exact T.p3)) ?_)|(refine Q9 (hu:=by (first|exact T.p108|exact T.p9|exact T.p46|exact T.p3)) ?_)|refine Q11 T.a33 ?_|refine Q14 T.a33 ?_|(refine Bn T.a33 ?_)|refine Q34 T.a33 ?_)|refine R2 ?_|(apply Za;exact rfl;all_goals (intro h;try (exfalso;omega)))|(apply Zy;exact rfl;all_goals intro h)|((fail_if_success (refine Q1 ?_));apply Zb;exact rfl;exact rfl;all_goals (intro h;try (exfalso;omega)))|((fail_if_success (refine Q1 ?_));apply ZW;exact rfl;exact rfl;all_goals intro h)|fail)
 refine Q1 ?_;refine Q5 T.z33 hA12 ?_;intro w8 hA12 hg8 hs8
 replace hA12:Blk w8.heap a12 33 (Aq.enc R):=hA12
 have hx68:Ext w6 w8:=hx7.own hg8 (fun k hk=>by injection hk;omega)
 have z56:=hS6.size
 have hK88:=hK86.ext hx68 0
 have hK128:Bk (rt g6 w6 0) w8 0 a12 33 _:=Bk.new hA12 (by omega) (by unfold ixT;decide)
 repeat' (first|refine R1 ?_|(refine Q1 ?_;first|(refine Q2 (hu:=by (first|exact T.f190_1|exact T.f190_0|exact T.f33_0)) ?_)|(refine Q3 (hu:=by (first|exact T.p108|exact T.p9|exact T.p46|exact T.p3)) ?_)|(refine Q31 (hu:=by (first|exact T.p108|exact T.p9|exact T.p46|exact T.p3)) ?_)|(refine Q44 (hu:=by (first|exact T.p108|exact T.p9|exact T.p46|exact T.p3)) ?_)|(refine Q9 (hu:=by (first|exact T.p108|exact T.p9|exact T.p46|exact T.p3)) ?_)|refine Q11 T.a33 ?_|refine Q14 T.a33 ?_|(refine Bn T.a33 ?_)|refine Q34 T.a33 ?_)|refine R2 ?_|(apply Za;exact rfl;all_goals (intro h;try (exfalso;omega)))|(apply Zy;exact rfl;all_goals intro h)|((fail_if_success (refine Q1 ?_));apply Zb;exact rfl;exact rfl;all_goals (intro h;try (exfalso;omega)))|((fail_if_success (refine Q1 ?_));apply ZW;exact rfl;exact rfl;all_goals intro h)|fail)
 all_goals try (exfalso;omega)
 have hj3:j ∉ [1,2,3,4]:=by simp at hjT ⊢;omega
 refine Q1 ?_;refine Q4 (hc:=Qb (ix:=ix) (hM6.ext hx68 0) hi5 (hp6.ext hx68 0) (hC6.ext hx68 0) hj3 (hs6.ext hx68 0) (hQ6.ext hx68 0) hxk hcl hvl hfit hu) ?_;rintro _ w9 ⟨n9,e9,vs9,l9,u9,rfl,g9,ds9,hS9,hM9,hs9,hQ9,hd9,hO9⟩;refine Kc ?_
 have hS04:Stq ix [1,2,3,4,7] g (rt g w 0) w w4:=Stq.of_ext hx04 0
 have hS09:=(((hS04.trans (hS5.mono (by simp))).trans (hS6.mono (by simp))).trans (Stq.of_ext (ix:=ix) (T:=[1,2,3,4,7]) hx68 0)).trans (hS9.mono (fun t ht=>by simp at ht ⊢;omega))
 rcases hO9 with ⟨rfl,hr9⟩|⟨rfl,hr9⟩
 ·have hO9':NW vs last used nn x 0 vs9 l9 u9:=.inl ⟨rfl,hr9⟩
  have hK89:=hK88.stp hS9 (by decide)
  have hK129:=hK128.stp hS9 (by decide)
  repeat' (first|refine R1 ?_|(refine Q1 ?_;first|(refine Q2 (hu:=by (first|exact T.f190_1|exact T.f190_0|exact T.f33_0)) ?_)|(refine Q3 (hu:=by (first|exact T.p108|exact T.p9|exact T.p46|exact T.p3)) ?_)|(refine Q31 (hu:=by (first|exact T.p108|exact T.p9|exact T.p46|exact T.p3)) ?_)|(refine Q44 (hu:=by (first|exact T.p108|exact T.p9|exact T.p46|exact T.p3)) ?_)|(refine Q9 (hu:=by (first|exact T.p108|exact T.p9|exact T.p46|exact T.p3)) ?_)|refine Q11 T.a33 ?_|refine Q14 T.a33 ?_|(refine Bn T.a33 ?_)|refine Q34 T.a33 ?_)|refine R2 ?_|(apply Za;exact rfl;all_goals (intro h;try (exfalso;omega)))|(apply Zy;exact rfl;all_goals intro h)|((fail_if_success (refine Q1 ?_));apply Zb;exact rfl;exact rfl;all_goals (intro h;try (exfalso;omega)))|((fail_if_success (refine Q1 ?_));apply ZW;exact rfl;exact rfl;all_goals intro h)|fail)
  refine Q1 ?_;refine Q7 T.zero33 ?_;intro a14 w10 ha14 hA14 hx10 hs10
  repeat' (first|refine R1 ?_|(refine Q1 ?_;first|(refine Q2 (hu:=by (first|exact T.f190_1|exact T.f190_0|exact T.f33_0)) ?_)|(refine Q3 (hu:=by (first|exact T.p108|exact T.p9|exact T.p46|exact T.p3)) ?_)|(refine Q31 (hu:=by (first|exact T.p108|exact T.p9|exact T.p46|exact T.p3)) ?_)|(refine Q44 (hu:=by (first|exact T.p108|exact T.p9|exact T.p46|exact T.p3)) ?_)|(refine Q9 (hu:=by (first|exact T.p108|exact T.p9|exact T.p46|exact T.p3)) ?_)|refine Q11 T.a33 ?_|refine Q14 T.a33 ?_|(refine Bn T.a33 ?_)|refine Q34 T.a33 ?_)|refine R2 ?_|(apply Za;exact rfl;all_goals (intro h;try (exfalso;omega)))|(apply Zy;exact rfl;all_goals intro h)|((fail_if_success (refine Q1 ?_));apply Zb;exact rfl;exact rfl;all_goals (intro h;try (exfalso;omega)))|((fail_if_success (refine Q1 ?_));apply ZW;exact rfl;exact rfl;all_goals intro h)|fail)
  refine Q1 ?_;refine Q5 T.z33 hA14 ?_;intro w11 hA14 hg11 hs11
  replace hA14:Blk w11.heap a14 33 (Aq.enc (Av 0 sOK 0)):=hA14
  have hx911:Ext w9 w11:=hx10.own hg11 (fun k hk=>by injection hk;omega)
  have hK811:=hK89.ext hx911 0
  have hb811:=hK811.blk
  have hb1411:=hA14
  have hb1211:=(hK129.ext hx911 0).blk
  repeat' (first|refine R1 ?_|(refine Q1 ?_;first|(refine Q11 T.a33 (hb:=hb1211) ?_)|(refine Q2 (hu:=by (first|exact T.f190_1|exact T.f190_0|exact T.f33_0)) ?_)|(refine Q3 (hu:=by (first|exact T.p108|exact T.p9|exact T.p46|exact T.p3)) ?_)|(refine Q31 (hu:=by (first|exact T.p108|exact T.p9|exact T.p46|exact T.p3)) ?_)|(refine Q44 (hu:=by (first|exact T.p108|exact T.p9|exact T.p46|exact T.p3)) ?_)|(refine Q9 (hu:=by (first|exact T.p108|exact T.p9|exact T.p46|exact T.p3)) ?_)|refine Q11 T.a33 ?_|refine Q14 T.a33 ?_|(refine Bn T.a33 ?_)|refine Q34 T.a33 ?_)|refine R2 ?_|(apply Za;exact rfl;all_goals (intro h;try (exfalso;omega)))|(apply Zy;exact rfl;all_goals intro h)|((fail_if_success (refine Q1 ?_));apply Zb;exact rfl;exact rfl;all_goals (intro h;try (exfalso;omega)))|((fail_if_success (refine Q1 ?_));apply ZW;exact rfl;exact rfl;all_goals intro h)|fail)
  all_goals try (exfalso;simp only at *;omega)
  refine Q1 ?_;refine Q5 T.z33 hb811 ?_;intro w12 hA8' hg12 hs12
  replace hA8':Blk w12.heap a8 33 (Aq.enc (R)):=hA8'
  have hb1212:=hb1211.grown hg12 (fun e=>by injection e;omega)
  repeat' (first|refine R1 ?_|(refine Q1 ?_;first|(refine Q11 T.a33 (hb:=hb1212) ?_)|(refine Q2 (hu:=by (first|exact T.f190_1|exact T.f190_0|exact T.f33_0)) ?_)|(refine Q3 (hu:=by (first|exact T.p108|exact T.p9|exact T.p46|exact T.p3)) ?_)|(refine Q31 (hu:=by (first|exact T.p108|exact T.p9|exact T.p46|exact T.p3)) ?_)|(refine Q44 (hu:=by (first|exact T.p108|exact T.p9|exact T.p46|exact T.p3)) ?_)|(refine Q9 (hu:=by (first|exact T.p108|exact T.p9|exact T.p46|exact T.p3)) ?_)|refine Q11 T.a33 ?_|refine Q14 T.a33 ?_|(refine Bn T.a33 ?_)|refine Q34 T.a33 ?_)|refine R2 ?_|(apply Za;exact rfl;all_goals (intro h;try (exfalso;omega)))|(apply Zy;exact rfl;all_goals intro h)|((fail_if_success (refine Q1 ?_));apply Zb;exact rfl;exact rfl;all_goals (intro h;try (exfalso;omega)))|((fail_if_success (refine Q1 ?_));apply ZW;exact rfl;exact rfl;all_goals intro h)|fail)
  refine Ze Tryz.results91 ⟨_,_,_,rfl,rfl,Ae T.a33 (by assumption) rfl,rfl⟩ ?_
  have hS12:=hK811.stpG (T:=[0]) (ix:=ix) hg12 0 (by decide)
  have z03:=((hx1.trans hx2).trans hx3).size
  have hts:(ts++[(⟨t,(last:Int),clk,false,mp⟩:TG)]).take ts.length++(ts++[(⟨t,(last:Int),clk,false,mp⟩:TG)]).drop (ts.length+1)=ts:=by simp
  rw [hts] at hM9
  exact ⟨0,_,_,_,rfl,_,ds9,x,hx,(hS09.trans (Stq.of_ext (ix:=ix) (T:=[1,2,3,4,7]) hx911 0)).own hg12 (by omega) 0,(hM9.ext hx911 0).stp hS12 (by decide) (by decide),(hs9.ext hx911 0).stp hS12 (by decide),(hQ9.ext hx911 0).stp hS12 (by decide) (by decide) (by decide),hd9,hO9'⟩
 ·have hO9':NW vs last used nn x 22 vs9 l9 u9:=.inr ⟨rfl,hr9⟩
  have hK89:=hK88.stp hS9 (by decide)
  have hK129:=hK128.stp hS9 (by decide)
  repeat' (first|refine R1 ?_|(refine Q1 ?_;first|(refine Q2 (hu:=by (first|exact T.f190_1|exact T.f190_0|exact T.f33_0)) ?_)|(refine Q3 (hu:=by (first|exact T.p108|exact T.p9|exact T.p46|exact T.p3)) ?_)|(refine Q31 (hu:=by (first|exact T.p108|exact T.p9|exact T.p46|exact T.p3)) ?_)|(refine Q44 (hu:=by (first|exact T.p108|exact T.p9|exact T.p46|exact T.p3)) ?_)|(refine Q9 (hu:=by (first|exact T.p108|exact T.p9|exact T.p46|exact T.p3)) ?_)|refine Q11 T.a33 ?_|refine Q14 T.a33 ?_|(refine Bn T.a33 ?_)|refine Q34 T.a33 ?_)|refine R2 ?_|(apply Za;exact rfl;all_goals (intro h;try (exfalso;omega)))|(apply Zy;exact rfl;all_goals intro h)|((fail_if_success (refine Q1 ?_));apply Zb;exact rfl;exact rfl;all_goals (intro h;try (exfalso;omega)))|((fail_if_success (refine Q1 ?_));apply ZW;exact rfl;exact rfl;all_goals intro h)|fail)
  refine Q1 ?_;refine Q7 T.zero33 ?_;intro a14 w10 ha14 hA14 hx10 hs10
  repeat' (first|refine R1 ?_|(refine Q1 ?_;first|(refine Q2 (hu:=by (first|exact T.f190_1|exact T.f190_0|exact T.f33_0)) ?_)|(refine Q3 (hu:=by (first|exact T.p108|exact T.p9|exact T.p46|exact T.p3)) ?_)|(refine Q31 (hu:=by (first|exact T.p108|exact T.p9|exact T.p46|exact T.p3)) ?_)|(refine Q44 (hu:=by (first|exact T.p108|exact T.p9|exact T.p46|exact T.p3)) ?_)|(refine Q9 (hu:=by (first|exact T.p108|exact T.p9|exact T.p46|exact T.p3)) ?_)|refine Q11 T.a33 ?_|refine Q14 T.a33 ?_|(refine Bn T.a33 ?_)|refine Q34 T.a33 ?_)|refine R2 ?_|(apply Za;exact rfl;all_goals (intro h;try (exfalso;omega)))|(apply Zy;exact rfl;all_goals intro h)|((fail_if_success (refine Q1 ?_));apply Zb;exact rfl;exact rfl;all_goals (intro h;try (exfalso;omega)))|((fail_if_success (refine Q1 ?_));apply ZW;exact rfl;exact rfl;all_goals intro h)|fail)
  refine Q1 ?_;refine Q5 T.z33 hA14 ?_;intro w11 hA14 hg11 hs11
  replace hA14:Blk w11.heap a14 33 (Aq.enc (Av 1 Bw 0)):=hA14
  have hx911:Ext w9 w11:=hx10.own hg11 (fun k hk=>by injection hk;omega)
  have hK811:=hK89.ext hx911 0
  have hb811:=hK811.blk
  have hb1411:=hA14
  have hb1211:=(hK129.ext hx911 0).blk
  repeat' (first|refine R1 ?_|(refine Q1 ?_;first|(refine Q11 T.a33 (hb:=hb1411) ?_)|(refine Q2 (hu:=by (first|exact T.f190_1|exact T.f190_0|exact T.f33_0)) ?_)|(refine Q3 (hu:=by (first|exact T.p108|exact T.p9|exact T.p46|exact T.p3)) ?_)|(refine Q31 (hu:=by (first|exact T.p108|exact T.p9|exact T.p46|exact T.p3)) ?_)|(refine Q44 (hu:=by (first|exact T.p108|exact T.p9|exact T.p46|exact T.p3)) ?_)|(refine Q9 (hu:=by (first|exact T.p108|exact T.p9|exact T.p46|exact T.p3)) ?_)|refine Q11 T.a33 ?_|refine Q14 T.a33 ?_|(refine Bn T.a33 ?_)|refine Q34 T.a33 ?_)|refine R2 ?_|(apply Za;exact rfl;all_goals (intro h;try (exfalso;omega)))|(apply Zy;exact rfl;all_goals intro h)|((fail_if_success (refine Q1 ?_));apply Zb;exact rfl;exact rfl;all_goals (intro h;try (exfalso;omega)))|((fail_if_success (refine Q1 ?_));apply ZW;exact rfl;exact rfl;all_goals intro h)|fail)
  all_goals try (exfalso;simp only at *;omega)
  refine Q1 ?_;refine Q5 T.z33 hb811 ?_;intro w12 hA8' hg12 hs12
  replace hA8':Blk w12.heap a8 33 (Aq.enc (Av 1 Bw 0)):=hA8'
  have hb1212:=hb1211.grown hg12 (fun e=>by injection e;omega)
  repeat' (first|refine R1 ?_|(refine Q1 ?_;first|(refine Q11 T.a33 (hb:=hb1212) ?_)|(refine Q2 (hu:=by (first|exact T.f190_1|exact T.f190_0|exact T.f33_0)) ?_)|(refine Q3 (hu:=by (first|exact T.p108|exact T.p9|exact T.p46|exact T.p3)) ?_)|(refine Q31 (hu:=by (first|exact T.p108|exact T.p9|exact T.p46|exact T.p3)) ?_)|(refine Q44 (hu:=by (first|exact T.p108|exact T.p9|exact T.p46|exact T.p3)) ?_)|(refine Q9 (hu:=by (first|exact T.p108|exact T.p9|exact T.p46|exact T.p3)) ?_)|refine Q11 T.a33 ?_|refine Q14 T.a33 ?_|(refine Bn T.a33 ?_)|refine Q34 T.a33 ?_)|refine R2 ?_|(apply Za;exact rfl;all_goals (intro h;try (exfalso;omega)))|(apply Zy;exact rfl;all_goals intro h)|((fail_if_success (refine Q1 ?_));apply Zb;exact rfl;exact rfl;all_goals (intro h;try (exfalso;omega)))|((fail_if_success (refine Q1 ?_));apply ZW;exact rfl;exact rfl;all_goals intro h)|fail)
  refine Ze Tryz.results91 ⟨_,_,_,rfl,rfl,Ae T.a33 (by assumption) rfl,rfl⟩ ?_
  have hS12:=hK811.stpG (T:=[0]) (ix:=ix) hg12 0 (by decide)
  have z03:=((hx1.trans hx2).trans hx3).size
  have hts:(ts++[(⟨t,(last:Int),clk,false,mp⟩:TG)]).take ts.length++(ts++[(⟨t,(last:Int),clk,false,mp⟩:TG)]).drop (ts.length+1)=ts:=by simp
  rw [hts] at hM9
  exact ⟨22,_,_,_,rfl,_,ds9,x,hx,(hS09.trans (Stq.of_ext (ix:=ix) (T:=[1,2,3,4,7]) hx911 0)).own hg12 (by omega) 0,(hM9.ext hx911 0).stp hS12 (by decide) (by decide),(hs9.ext hx911 0).stp hS12 (by decide),(hQ9.ext hx911 0).stp hS12 (by decide) (by decide) (by decide),hd9,hO9'⟩
structure DbG (g:Nat→Nat) (w:World) (ix st k m lg d:Nat) (key:ByteArray) (vs:List Ver) (last mark:Nat) (clk:Int) (ts:List TG) (nn used sg:Nat) (sv:Value):Prop where
 mgr:AL g w m st k clk ts
 sto:Cf g w st ix key vs last mark
 kep:∃ds,BX g w k lg d sg nn used last sv ds
theorem DbG.db {g:Nat→Nat} {w:World} {ix st k m lg d:Nat} {key:ByteArray} {vs:List Ver} {last mark:Nat} {clk:Int} {ts:List TG} {nn used sg:Nat} {sv:Value} (h:DbG g w ix st k m lg d key vs last mark clk ts nn used sg sv):Db g w ix st k m lg d key vs last mark clk ts nn used:=by
 obtain ⟨ds,h3⟩:=h.kep
 exact ⟨h.mgr,h.sto,sg,sv,ds,h3⟩
theorem DbG.stp {ix:Nat} {T:List Nat} {g g':Nat→Nat} {w w':World} {st k m lg d:Nat} {key:ByteArray} {vs:List Ver} {last mark:Nat} {clk:Int} {ts:List TG} {nn used sg:Nat} {sv:Value} (h:DbG g w ix st k m lg d key vs last mark clk ts nn used sg sv) (s:Stq ix T g g' w w') (hT:∀t∈T,t=0∨7<t):DbG g' w' ix st k m lg d key vs last mark clk ts nn used sg sv:=by
 obtain ⟨ds,h3⟩:=h.kep
 have n:∀t,0<t→t≤7→t ∉ T:=fun t h1 h2 e=>by have:=hT t e;omega
 exact ⟨h.mgr.stp s (n 4 (by omega) (by omega)) (n 5 (by omega) (by omega)),h.sto.stp s (n 3 (by omega) (by omega)),ds,h3.stp s (n 1 (by omega) (by omega)) (n 2 (by omega) (by omega)) (n 6 (by omega) (by omega))⟩
variable {x : Cn}
def CQ (ix st m k lg d:Nat) (key:ByteArray) (vs:List Ver) (last mark:Nat) (clk:Int) (ts:List TG) (nn used sg:Nat) (sv:Value) (s:ByteArray) (R:Bg) (g:Nat→Nat) (w:World):Prop :=
  ∃(y:Wt) (vs':List Ver) (last' used':Nat),y.gone=false∧y.exp=0∧y.val.text=s∧DbG g w ix st k m lg d key vs' last' mark clk ts nn used' sg sv ∧
    (R=Av 0 sOK 0∧used+DX (22+key.size+s.size)≤nn∧vs'=vs++[y.v (last+1:Nat)]∧last'=last+1∧used'=used+DX (22+key.size+s.size) ∨
     R=Av 1 Bw 0∧nn<used+DX (22+key.size+s.size)∧vs'=vs∧last'=last∧used'=used)
theorem CQ.stp {R:Bg} {T:List Nat} {g g':Nat→Nat} {w w':World} (h:CQ ix st m k lg d key vs last mark clk ts nn used sg sv s R g w) (hs:Stq ix T g g' w w') (hT:∀t∈T,t=0∨7<t):CQ ix st m k lg d key vs last mark clk ts nn used sg sv s R g' w':=by
 obtain ⟨y,vs',l',u',h1,h2,h3,h4,h5⟩:=h
 exact ⟨y,vs',l',u',h1,h2,h3,h4.stp hs hT,h5⟩
theorem PN (hD:DbG g w ix st k m lg d key vs last mark clk ts nn used sg sv) (hC:Bk g w j cl 190 [.pointer (some (adr (bx m) 0)),.pointer none]) (hj:j ∉ [1,2,3,4,7]) (hA:SlT g w jw Ar q dq [Hz,key,s]) (hjw:jw ∉ [1,2,3,4,7]) (hl:ts.length≤8) (hvl:vs.length≤59) (hfit:last+1≤100000) (hcl:lastOf vs vs.length≤(last:Int)) (hk:key.size≤256) (hs:s.size≤4096) (hc:0≤clk) (hu:used≤nn) :
  Ctr Tryz.prog 58 [.pointer (some (adr (bx cl) 0)),.slice q 3 dq] w (fun v w'=>∃R,v=.tuple #[.agg (Aq.enc R).toArray,.bool false]∧∃g',Stq ix [1,2,3,4,7] g g' w w'∧CQ ix st m k lg d key vs last mark clk ts nn used sg sv s R g' w'):=by
 refine Ia (Ψ:=CQ ix st m k lg d key vs last mark clk ts nn used sg sv s) (fun R g1 w1 g2 w2 h hs=>h.stp hs (fun t ht=>by simp at ht;omega)) (by decide) hC.blk hA (by decide) (by decide) (fun w1=>OC) (fun w1=>EB (Gu (.inl rfl))) (fun w1 q' d' hx hS=>?_)
 have hD1:=hD.stp (ix:=ix) (T:=[]) (g':=rt g w 0) (Stq.of_ext hx 0) (fun t ht=>by cases ht)
 obtain ⟨ds,hK⟩:=hD1.kep
 refine (KP (R:=Av 0 sOK 0) (Ψ:=fun y=>y.key=key∧y.exp=0∧y.val.text=s∧y.gone=false) (hC.ext hx 0) hj hD1.mgr hl hD1.sto hK hS hjw hvl hfit hcl (by decide) hu (fun y h=>h.1) ?_).mono ?_
 ·intro t mp g1 w1 vw _ hM hp hS hv hW
  refine (Xw (a:=⟨t,(last:Int),clk,false,mp⟩) (i:=ts.length) hM (by simp) rfl hp hS hk hs hv hc hW).mono ?_
  rintro v w' ⟨rfl,g',x,h1,h2,h3,h4,h5⟩
  exact ⟨rfl,g',x,h1,h2,h3,h4,h5,(h2.ok x rfl).gone⟩
 ·rintro v w' ⟨e,vs',l',u',rfl,g',ds',y,⟨h1,h2,h3,h4⟩,hS,hM,hT,hK',-,hO⟩
  have e:Cu y=22+key.size+s.size:=by
   unfold Cu
   rw [h1,h3,h4]
   simp only [Bool.false_eq_true,if_false]
   omega
  unfold NW at hO
  rw [e] at hO
  rcases hO with ⟨rfl,o1,o2,o3,o4⟩|⟨rfl,o1,o2,o3,o4⟩
  ·exact ⟨_,rfl,g',hS,y,vs',l',u',h4,h2,h3,⟨hM,hT,ds',hK'⟩,.inl ⟨rfl,o1,o2,o3,o4⟩⟩
  ·exact ⟨_,rfl,g',hS,y,vs',l',u',h4,h2,h3,⟨hM,hT,ds',hK'⟩,.inr ⟨rfl,o1,o2,o3,o4⟩⟩
theorem QH:Lf (Av 1 Bw 0):=⟨rfl,by decide,by unfold AC;decide,by decide,by decide⟩
theorem KO (h:Hse W0 g w ix hb sb dk m k slot log clk cs n) (hP:Pow W0) (hE:CL W0) (hi:cs[i]?=some x) (hn:n≤190) (hD:DbG g w ix st k m lg d key vs last mark clk ts nn used sg sv) (hC:Bk g w (x.b+4) x.cl 190 [.pointer (some (adr (bx m) 0)),.pointer none]) (hW:Sl w.heap Ar q dq [Hz,key,s]) (hl:ts.length≤8) (hvl:vs.length≤59) (hfit:last+1≤100000) (hcl:lastOf vs vs.length≤(last:Int)) (hk:key.size≤256) (hs:s.size≤4096) (hc:0≤clk) (hu:used≤nn) :
  Ctr Tryz.prog 10 [.pointer (some (adr (bx hb) 0)),.int .i64 (i:Int),.slice q 3 dq] w (fun v w'=>∃R r g',v=.agg (Aq.enc r).toArray∧r.kind=R.kind∧r.s=R.s∧r.n=R.n∧Stq ix (Nq x [1,2,3,4,7]) g g' w w'∧Hse W0 g' w' ix hb sb dk m k slot log clk cs (n+4)∧CQ ix st m k lg d key vs last mark clk ts nn used sg sv s R g' w'):=by
 obtain ⟨ou,hc0⟩:=h.con
 have hb:=(hc0.one i x hi).2.2.1
 exact JF h hP hE hi hn (EH (l:=[Hz,key,s]) (by simp) (by simp) (fun z hz=>by simp only [List.mem_cons,List.not_mem_nil,or_false] at hz;rcases hz with rfl|rfl|rfl <;> first|decide|omega)) hW (fun t ht=>UK ht)
  (fun R g1 w1 g2 w2 hw hs=>hw.stp hs (fun t ht=>by simp at ht;omega)) (fun R g1 w1 hw=>by
   obtain ⟨_,_,_,_,_,_,_,_,⟨rfl,_⟩|⟨rfl,_⟩⟩:=hw
   ·exact lf_ok
   ·exact QH)
  (fun g1 w1 q2 d2 hS hA=>PN (hD.stp hS (fun t ht=>by simp at ht;omega)) (hC.stp hS (by simp;omega)) (by simp;omega) hA (by simp;omega) hl hvl hfit hcl hk hs hc hu)
theorem KN (h:Hse W0 g w ix hb sb dk m k slot log clk cs n) (hP:Pow W0) (hE:CL W0) (hi:cs[i]?=some x) (hn:n≤190) (hD:Db g w ix st k m lg d key vs last mark clk ts nn used) (hC:Bk g w (x.b+4) x.cl 190 [.pointer (some (adr (bx m) 0)),.pointer none]) (hW:Sl w.heap Ar q dq [Hz,key,s]) (hl:ts.length≤8) (hvl:vs.length≤59) (hfit:last+1≤100000) (hcl:lastOf vs vs.length≤(last:Int)) (hk:key.size≤256) (hs:s.size≤4096) (hc:0≤clk) (hroom:used+DX (22+key.size+s.size)≤nn) :
  Ctr Tryz.prog 10 [.pointer (some (adr (bx hb) 0)),.int .i64 (i:Int),.slice q 3 dq] w (fun v w'=>∃R r g',v=.agg (Aq.enc r).toArray∧r.kind=R.kind∧r.s=R.s∧r.n=R.n∧Stq ix (Nq x [1,2,3,4,7]) g g' w w'∧Hse W0 g' w' ix hb sb dk m k slot log clk cs (n+4)∧Wrote ix st m k lg d key vs last mark clk ts nn used s 0 R g' w'):=by
 obtain ⟨sg,sv,ds,hK⟩:=hD.kep
 refine (KO h hP hE hi hn (⟨hD.mgr,hD.sto,ds,hK⟩:DbG g w ix st k m lg d key vs last mark clk ts nn used sg sv) hC hW hl hvl hfit hcl hk hs hc (by omega)).mono ?_
 rintro v w' ⟨R,r,g',rfl,e1,e2,e3,hS,hH,y,vs',l',u',h1,h2,h3,h4,h5⟩
 rcases h5 with ⟨rfl,_,rfl,rfl,rfl⟩|⟨_,h6,_⟩
 ·exact ⟨_,r,g',rfl,e1,e2,e3,hS,hH,rfl,y,h1,h2,h3,h4.db⟩
 ·omega
end Go.Proofs.YtkcolpfanmdmiaaGreatDoor
namespace Go.V
variable {l : List Oper}
variable {d : Option Nat} {g : Option (Nat × Bool)}
theorem Q133 (hx:E.look x=some (.int .i64 1)) (hy:E.look y=some (.int .i64 1)) (hd:Ah n d=true) (h:G P n ops dr l (E.put d (.int .i64 1)) w K):G1 P n ops dr ⟨d,.binOp .and t x y t',ty,pos,af,g⟩ l E w K:=by
 have e:Op.intBits .and .i64 1 1=pure (.int .i64 1):=by rfl
 exact Zd _ hd (fun a ha w' _=>by simp [execOp,ha.eval hx,ha.eval hy,eqGuard,binOp,e]) h
end Go.V
namespace Go.Proofs.YtkcolpfanmdmiaaGreatDoor
open Go.V Go.RowKit Go.Conc
theorem El {s:Sec} {q m k c ty:Nat} {z:Int} {w:World} (hB:Blk w.heap q ty (BZ.enc s)) (hk:m+k≤64) :
  Ctr Tryz.prog 107 [.slice (some (adr (bx q) m)) k c,.int .u64 z] w (fun _ w'=>∃s':Sec,Blk w'.heap q ty (BZ.enc s')∧w.grownBy w' (some q)∧w'.heap.size=w.heap.size):=by
 refine Ac Tryz.func107 Tryz.ntmps107 rfl rfl rfl ?_
 repeat' (first|refine R1 ?_|(refine Q1 ?_;first|(refine Q6 (hu:=T.s40) ?_)|refine Q97 T.i66 T.i5 ?_|refine Q13 T.s40 ?_|refine Q25 T.s40 ?_|(refine PE (c:=256) ?_))|refine R2 ?_|(apply Za;exact rfl;all_goals (intro h;try (exfalso;omega)))|(apply Zy;exact rfl;all_goals intro h)|((fail_if_success (refine Q1 ?_));apply Zb;exact rfl;exact rfl;all_goals (intro h;try (exfalso;omega)))|((fail_if_success (refine Q1 ?_));apply ZW;exact rfl;exact rfl;all_goals intro h)|fail)
 refine Zh (ι:=Nat × Int × Sec) (fun y=>[(0,.slice (some (adr (bx q) m)) k c),(1,.int .u64 y.2.1),(6,.int .i64 (k:Int)),(7,.int .i64 (y.1:Int))])
  (fun y w'=>y.1≤k∧Blk w'.heap q ty (BZ.enc y.2.2)∧w.grownBy w' (some q)∧w'.heap.size=w.heap.size) (fun y=>k - y.1) (0,z,s) ⟨rfl,rfl,rfl,rfl,trivial⟩ ⟨Nat.zero_le _,hB,⟨rfl,rfl,rfl,Nat.le_refl _,fun _ _ _=>rfl⟩,rfl⟩ ?_
 rintro ⟨j,z1,s1⟩ w1 ⟨hj,hB1,hg1,hz1⟩
 simp only at hj hB1
 by_cases hlt:j<k
 ·obtain ⟨x,hx⟩:=WJ z1
  obtain ⟨s2,hc2⟩:=QS s1 (i:=m+(k - 1 - j)) (by omega) x
  repeat' (first|refine R1 ?_|(refine Q1 ?_;first|(refine Q107 T.s40 (q:=k - 1 - j) ?_)|refine Q47 T.i66 T.i5 ?_|refine Q56 ?_|(refine Q6 (hu:=T.s40) ?_)|refine Q97 T.i66 T.i5 ?_|refine Q13 T.s40 ?_|refine Q25 T.s40 ?_|(refine PE (c:=256) ?_))|refine R2 ?_|(apply Za;exact rfl;all_goals (intro h;try (exfalso;omega)))|(apply Zy;exact rfl;all_goals intro h)|((fail_if_success (refine Q1 ?_));apply Zb;exact rfl;exact rfl;all_goals (intro h;try (exfalso;omega)))|((fail_if_success (refine Q1 ?_));apply ZW;exact rfl;exact rfl;all_goals intro h)|fail)
  all_goals try (exfalso;simp only at h;omega)
  rw [hx]
  refine Q1 ?_
  refine Q5 T.z5 hB1 (hm:=by (rw [BZ.len];show _≤64;omega)) (h1:=by (intro v hv;simp only [Value.cells] at hv;simp at hv;subst hv;rfl)) (hw:=.inl rfl) ?_;intro w2 hB2 hg2 hs2
  replace hB2:Blk w2.heap q ty (BZ.enc s2):=by rw [← hc2];exact hB2
  repeat' (first|refine R1 ?_|(refine Q1 ?_;first|(refine Q107 T.s40 (q:=k - 1 - j) ?_)|refine Q56 ?_|(refine Q6 (hu:=T.s40) ?_)|refine Q97 T.i66 T.i5 ?_|refine Q13 T.s40 ?_|refine Q25 T.s40 ?_|(refine PE (c:=256) ?_))|refine R2 ?_|(apply Za;exact rfl;all_goals (intro h;try (exfalso;omega)))|(apply Zy;exact rfl;all_goals intro h)|((fail_if_success (refine Q1 ?_));apply Zb;exact rfl;exact rfl;all_goals (intro h;try (exfalso;omega)))|((fail_if_success (refine Q1 ?_));apply ZW;exact rfl;exact rfl;all_goals intro h)|fail)
  exact Zc (j+1,_,s2) ⟨rfl,rfl,rfl,rfl,trivial⟩ ⟨by omega,hB2,Xz hg1 hg2,by omega⟩ (by simp only;omega)
 ·repeat' (first|refine R1 ?_|(refine Q1 ?_;first|(refine Q6 (hu:=T.s40) ?_)|refine Q97 T.i66 T.i5 ?_|refine Q13 T.s40 ?_|refine Q25 T.s40 ?_|(refine PE (c:=256) ?_))|refine R2 ?_|(apply Za;exact rfl;all_goals (intro h;try (exfalso;omega)))|(apply Zy;exact rfl;all_goals intro h)|((fail_if_success (refine Q1 ?_));apply Zb;exact rfl;exact rfl;all_goals (intro h;try (exfalso;omega)))|((fail_if_success (refine Q1 ?_));apply ZW;exact rfl;exact rfl;all_goals intro h)|fail)
  all_goals try (exfalso;simp only at *;omega)
  refine Zk Tryz.results107 (vs:=[]) rfl ?_
  exact ⟨s1,hB1,hg1,hz1⟩
def slC (d gen:Nat):List Value:=[.pointer (some (adr (bx d) 0)),.int .i64 0,.int .i64 40,.int .i64 (gen:Int),.bool false]
set_option maxRecDepth 20000 in
theorem MM {ix:Nat} {g:Nat→Nat} {w:World} {d so c:Nat} {st:Int} {ds:List Sec} {p:Option Addr} {bs:List UInt8} (hD:AZ g w d ds []) (hL:Bk g w 6 so 164 (slC d 0)) (hb:SlJ g w p c bs) (h1:1≤bs.length) (hlen:bs.length≤2400) (hds:ds.length≤65536) (hfit:80≤ds.length) :
  Ctr Tryz.prog 69 [.pointer (some (adr (bx so) 0)),.agg #[.int .i64 st,.slice p bs.length c],.int .i64 1] w (fun v w'=>v=.int .i64 0∧∃g' ds',Stq ix [1] g g' w w'∧AZ g' w' d ds' []∧ds'.length=ds.length):=by
 refine Ac Tryz.func69 Tryz.ntmps69 rfl rfl rfl ?_
 repeat' (first|refine R1 ?_|(refine Q1 ?_;first|(refine Q2 (hu:=by (first|exact T.f164_1|exact T.f164_2|exact T.f123_1|exact T.f164_0|exact T.f123_0)) ?_)|(refine Q3 (hu:=by (first|exact T.p3|exact T.p40|exact T.p68)) ?_)|(refine Q31 (hu:=by (first|exact T.p3|exact T.p40|exact T.p68)) ?_)|(refine Q44 (hu:=by (first|exact T.p3|exact T.p40|exact T.p68)) ?_)|(refine Q9 (hu:=by (first|exact T.p3|exact T.p40|exact T.p68)) ?_)|(refine Q6 (hu:=T.s40) ?_)|refine Q74 T.ar138 ?_|refine Q96 T.i3 T.i66 ?_|refine Q96 T.i229 T.i66 ?_)|refine R2 ?_|(apply Za;exact rfl;all_goals (intro h;try (exfalso;omega)))|(apply Zy;exact rfl;all_goals intro h)|((fail_if_success (refine Q1 ?_));apply Zb;exact rfl;exact rfl;all_goals (intro h;try (exfalso;omega)))|((fail_if_success (refine Q1 ?_));apply ZW;exact rfl;exact rfl;all_goals intro h)|fail)
 refine Q1 ?_;refine Q8 ?_;intro a4 w1 ha4 hA4 hx1 hs1
 replace hA4:Blk w1.heap a4 123 [.int .i64 st,.slice p bs.length c]:=hA4
 have hLb:=hL.blk.ext hx1
 repeat' (first|refine R1 ?_|(refine Q1 ?_;first|(refine Q2 (hu:=by (first|exact T.f164_1|exact T.f164_2|exact T.f123_1|exact T.f164_0|exact T.f123_0)) ?_)|(refine Q3 (hu:=by (first|exact T.p3|exact T.p40|exact T.p68)) ?_)|(refine Q31 (hu:=by (first|exact T.p3|exact T.p40|exact T.p68)) ?_)|(refine Q44 (hu:=by (first|exact T.p3|exact T.p40|exact T.p68)) ?_)|(refine Q9 (hu:=by (first|exact T.p3|exact T.p40|exact T.p68)) ?_)|(refine Q6 (hu:=T.s40) ?_)|refine Q74 T.ar138 ?_|refine Q96 T.i3 T.i66 ?_|refine Q96 T.i229 T.i66 ?_)|refine R2 ?_|(apply Za;exact rfl;all_goals (intro h;try (exfalso;omega)))|(apply Zy;exact rfl;all_goals intro h)|((fail_if_success (refine Q1 ?_));apply Zb;exact rfl;exact rfl;all_goals (intro h;try (exfalso;omega)))|((fail_if_success (refine Q1 ?_));apply ZW;exact rfl;exact rfl;all_goals intro h)|fail)
 refine Zf 1 [] [0,1,2,3,4,5,6,7,8,9,10,11,12] mixed (by decide +kernel) ?_
 have hx1d:Ext w w1.drew:=Ext.drew hx1
 have hA4d:=hA4.ext (Ext.drew (Ext.rfl' (w:=w1)))
 have hLd:=hL.ext hx1d 0
 have hLdb:=hLd.blk
 repeat' (first|refine R1 ?_|(refine Q1 ?_;first|refine Q133 rfl rfl rfl ?_|(refine Q2 (hu:=by (first|exact T.f164_1|exact T.f164_2|exact T.f123_1|exact T.f164_0|exact T.f123_0)) ?_)|(refine Q3 (hu:=by (first|exact T.p3|exact T.p40|exact T.p68)) ?_)|(refine Q31 (hu:=by (first|exact T.p3|exact T.p40|exact T.p68)) ?_)|(refine Q44 (hu:=by (first|exact T.p3|exact T.p40|exact T.p68)) ?_)|(refine Q9 (hu:=by (first|exact T.p3|exact T.p40|exact T.p68)) ?_)|(refine Q6 (hu:=T.s40) ?_)|refine Q74 T.ar138 ?_|refine Q96 T.i3 T.i66 ?_|refine Q96 T.i229 T.i66 ?_)|refine R2 ?_|(apply Za;exact rfl;all_goals (intro h;try (exfalso;omega)))|(apply Zy;exact rfl;all_goals intro h)|((fail_if_success (refine Q1 ?_));apply Zb;exact rfl;exact rfl;all_goals (intro h;try (exfalso;omega)))|((fail_if_success (refine Q1 ?_));apply ZW;exact rfl;exact rfl;all_goals intro h)|fail)
 all_goals try (exfalso;simp only at *;omega)
 refine Zf 2 [] [0,1,2,3,4,5,6,7,8,9] mixed (by decide +kernel) ?_
 have hx3:Ext w w1.drew.drew:=Ext.drew hx1d
 have hx13:Ext w1 w1.drew.drew:=Ext.drew (Ext.drew (Ext.rfl' (w:=w1)))
 have hA43:=hA4.ext hx13
 have hL3:=hL.ext hx3 0
 have hL3b:=hL3.blk
 have hS03:Stq ix [1] g (rt g w 0) w w1.drew.drew:=Stq.of_ext hx3 0
 have hb3:=hb.stp hS03
 have hK3:Bk (rt g w 0) w1.drew.drew 0 a4 123 _:=Bk.new hA43 (by omega) (by unfold ixT;decide)
 repeat' (first|refine R1 ?_|(refine Q1 ?_;first|(refine Q2 (hu:=by (first|exact T.f164_1|exact T.f164_2|exact T.f123_1|exact T.f164_0|exact T.f123_0)) ?_)|(refine Q3 (hu:=by (first|exact T.p3|exact T.p40|exact T.p68)) ?_)|(refine Q31 (hu:=by (first|exact T.p3|exact T.p40|exact T.p68)) ?_)|(refine Q44 (hu:=by (first|exact T.p3|exact T.p40|exact T.p68)) ?_)|(refine Q9 (hu:=by (first|exact T.p3|exact T.p40|exact T.p68)) ?_)|(refine Q6 (hu:=T.s40) ?_)|refine Q74 T.ar138 ?_|refine Q96 T.i3 T.i66 ?_|refine Q96 T.i229 T.i66 ?_)|refine R2 ?_|(apply Za;exact rfl;all_goals (intro h;try (exfalso;omega)))|(apply Zy;exact rfl;all_goals intro h)|((fail_if_success (refine Q1 ?_));apply Zb;exact rfl;exact rfl;all_goals (intro h;try (exfalso;omega)))|((fail_if_success (refine Q1 ?_));apply ZW;exact rfl;exact rfl;all_goals intro h)|fail)
 refine Q1 ?_;refine Q4 (hc:=JN (ix:=ix) (at_:=41) (hD.ext hx3 0) hb3 h1 (by omega) rfl (by omega) hds (by simp) (by simp)) ?_;rintro _ w4 ⟨rfl,g4,ps4,hS4,hD4,hpl4,hpx4⟩;refine Kc ?_
 have hL4:=hL3.stp hS4 (by decide)
 have hL4b:=hL4.blk
 repeat' (first|refine R1 ?_|(refine Q1 ?_;first|(refine Q2 (hu:=by (first|exact T.f164_1|exact T.f164_2|exact T.f123_1|exact T.f164_0|exact T.f123_0)) ?_)|(refine Q3 (hu:=by (first|exact T.p3|exact T.p40|exact T.p68)) ?_)|(refine Q31 (hu:=by (first|exact T.p3|exact T.p40|exact T.p68)) ?_)|(refine Q44 (hu:=by (first|exact T.p3|exact T.p40|exact T.p68)) ?_)|(refine Q9 (hu:=by (first|exact T.p3|exact T.p40|exact T.p68)) ?_)|(refine Q6 (hu:=T.s40) ?_)|refine Q74 T.ar138 ?_|refine Q96 T.i3 T.i66 ?_|refine Q96 T.i229 T.i66 ?_)|refine R2 ?_|(apply Za;exact rfl;all_goals (intro h;try (exfalso;omega)))|(apply Zy;exact rfl;all_goals intro h)|((fail_if_success (refine Q1 ?_));apply Zb;exact rfl;exact rfl;all_goals (intro h;try (exfalso;omega)))|((fail_if_success (refine Q1 ?_));apply ZW;exact rfl;exact rfl;all_goals intro h)|fail)
 all_goals try (exfalso;simp only at *;omega)
 refine Q1 ?_;refine Q4 (hc:=Lx (ix:=ix) hD4 hpx4 hds) ?_;rintro _ w5 ⟨rfl,g5,ds5,hS5,hD5,hl5⟩;refine Kc ?_
 repeat' (first|refine R1 ?_|(refine Q1 ?_;first|(refine Q2 (hu:=by (first|exact T.f164_1|exact T.f164_2|exact T.f123_1|exact T.f164_0|exact T.f123_0)) ?_)|(refine Q3 (hu:=by (first|exact T.p3|exact T.p40|exact T.p68)) ?_)|(refine Q31 (hu:=by (first|exact T.p3|exact T.p40|exact T.p68)) ?_)|(refine Q44 (hu:=by (first|exact T.p3|exact T.p40|exact T.p68)) ?_)|(refine Q9 (hu:=by (first|exact T.p3|exact T.p40|exact T.p68)) ?_)|(refine Q6 (hu:=T.s40) ?_)|refine Q74 T.ar138 ?_|refine Q96 T.i3 T.i66 ?_|refine Q96 T.i229 T.i66 ?_)|refine R2 ?_|(apply Za;exact rfl;all_goals (intro h;try (exfalso;omega)))|(apply Zy;exact rfl;all_goals intro h)|((fail_if_success (refine Q1 ?_));apply Zb;exact rfl;exact rfl;all_goals (intro h;try (exfalso;omega)))|((fail_if_success (refine Q1 ?_));apply ZW;exact rfl;exact rfl;all_goals intro h)|fail)
 all_goals try (exfalso;simp only at *;omega)
 have hS05:=(hS03.trans hS4).trans hS5
 have hK5:=(hK3.stp hS4 (by decide)).stp hS5 (by decide)
 have hL5:=hL4.stp hS5 (by decide)
 have hb5:=(hb3.stp hS4).stp hS5
 refine Q1 ?_;refine Q7 T.zero138 ?_;intro a13 w13 ha13 hA13 hx13' hs13
 replace hA13:Blk w13.heap a13 138 (BZ.enc Cw):=hA13
 repeat' (first|refine R1 ?_|(refine Q1 ?_;first|(refine Q2 (hu:=by (first|exact T.f164_1|exact T.f164_2|exact T.f123_1|exact T.f164_0|exact T.f123_0)) ?_)|(refine Q3 (hu:=by (first|exact T.p3|exact T.p40|exact T.p68)) ?_)|(refine Q31 (hu:=by (first|exact T.p3|exact T.p40|exact T.p68)) ?_)|(refine Q44 (hu:=by (first|exact T.p3|exact T.p40|exact T.p68)) ?_)|(refine Q9 (hu:=by (first|exact T.p3|exact T.p40|exact T.p68)) ?_)|(refine Q6 (hu:=T.s40) ?_)|refine Q74 T.ar138 ?_|refine Q96 T.i3 T.i66 ?_|refine Q96 T.i229 T.i66 ?_)|refine R2 ?_|(apply Za;exact rfl;all_goals (intro h;try (exfalso;omega)))|(apply Zy;exact rfl;all_goals intro h)|((fail_if_success (refine Q1 ?_));apply Zb;exact rfl;exact rfl;all_goals (intro h;try (exfalso;omega)))|((fail_if_success (refine Q1 ?_));apply ZW;exact rfl;exact rfl;all_goals intro h)|fail)
 refine Q1 ?_
 refine Q5 T.z5 hA13 (hm:=by (rw [BZ.len];decide)) (h1:=by (intro v hv;simp only [Value.cells] at hv;simp at hv;subst hv;rfl)) (hw:=.inl rfl) ?_;intro w14 hA14 hg14 hs14
 obtain ⟨s14,hc14⟩:=QS Cw (i:=0) (by decide) 83
 replace hA14:Blk w14.heap a13 138 (BZ.enc s14):=by rw [← hc14];exact hA14
 have z5:=hK5.lt
 have hne4:¬a4=a13:=by omega
 have hx14:Ext w5 w14:=hx13'.own hg14 (fun k hk=>by injection hk;omega)
 repeat' (first|refine R1 ?_|(refine Q1 ?_;first|(refine Q65 T.ar138 (q:=1) (r:=9) ?_)|refine Q47 T.i3 T.i66 ?_|(refine Q2 (hu:=by (first|exact T.f164_1|exact T.f164_2|exact T.f123_1|exact T.f164_0|exact T.f123_0)) ?_)|(refine Q3 (hu:=by (first|exact T.p3|exact T.p40|exact T.p68)) ?_)|(refine Q31 (hu:=by (first|exact T.p3|exact T.p40|exact T.p68)) ?_)|(refine Q44 (hu:=by (first|exact T.p3|exact T.p40|exact T.p68)) ?_)|(refine Q9 (hu:=by (first|exact T.p3|exact T.p40|exact T.p68)) ?_)|(refine Q6 (hu:=T.s40) ?_)|refine Q74 T.ar138 ?_|refine Q96 T.i3 T.i66 ?_|refine Q96 T.i229 T.i66 ?_)|refine R2 ?_|(apply Za;exact rfl;all_goals (intro h;try (exfalso;omega)))|(apply Zy;exact rfl;all_goals intro h)|((fail_if_success (refine Q1 ?_));apply Zb;exact rfl;exact rfl;all_goals (intro h;try (exfalso;omega)))|((fail_if_success (refine Q1 ?_));apply ZW;exact rfl;exact rfl;all_goals intro h)|fail)
 refine Q1 ?_;refine Q4 (hc:=El hA14 (by decide)) ?_;rintro _ w15 ⟨s15,hA15,hg15,hz15⟩;refine Kc ?_
 have hx15:Ext w5 w15:=hx14.own hg15 (fun k hk=>by injection hk;omega)
 repeat' (first|refine R1 ?_|(refine Q1 ?_;first|(refine Q2 (hu:=by (first|exact T.f164_1|exact T.f164_2|exact T.f123_1|exact T.f164_0|exact T.f123_0)) ?_)|(refine Q3 (hu:=by (first|exact T.p3|exact T.p40|exact T.p68)) ?_)|(refine Q31 (hu:=by (first|exact T.p3|exact T.p40|exact T.p68)) ?_)|(refine Q44 (hu:=by (first|exact T.p3|exact T.p40|exact T.p68)) ?_)|(refine Q9 (hu:=by (first|exact T.p3|exact T.p40|exact T.p68)) ?_)|(refine Q6 (hu:=T.s40) ?_)|refine Q74 T.ar138 ?_|refine Q96 T.i3 T.i66 ?_|refine Q96 T.i229 T.i66 ?_)|refine R2 ?_|(apply Za;exact rfl;all_goals (intro h;try (exfalso;omega)))|(apply Zy;exact rfl;all_goals intro h)|((fail_if_success (refine Q1 ?_));apply Zb;exact rfl;exact rfl;all_goals (intro h;try (exfalso;omega)))|((fail_if_success (refine Q1 ?_));apply ZW;exact rfl;exact rfl;all_goals intro h)|fail)
 refine Zf 1 [a13] [0,1,2,3,4] mixed (by decide +kernel) ?_
 have hx16:Ext w5 w15.drew:=Ext.drew hx15
 have hA16:Blk w15.drew.heap a13 138 (BZ.enc s15):=hA15
 have hK16:=hK5.blk.ext hx16
 repeat' (first|refine R1 ?_|(refine Q1 ?_;first|(refine Q65 T.ar138 (q:=9) (r:=17) ?_)|refine Q47 T.i3 T.i66 ?_|(refine Q2 (hu:=by (first|exact T.f164_1|exact T.f164_2|exact T.f123_1|exact T.f164_0|exact T.f123_0)) ?_)|(refine Q3 (hu:=by (first|exact T.p3|exact T.p40|exact T.p68)) ?_)|(refine Q31 (hu:=by (first|exact T.p3|exact T.p40|exact T.p68)) ?_)|(refine Q44 (hu:=by (first|exact T.p3|exact T.p40|exact T.p68)) ?_)|(refine Q9 (hu:=by (first|exact T.p3|exact T.p40|exact T.p68)) ?_)|(refine Q6 (hu:=T.s40) ?_)|refine Q74 T.ar138 ?_|refine Q96 T.i3 T.i66 ?_|refine Q96 T.i229 T.i66 ?_)|refine R2 ?_|(apply Za;exact rfl;all_goals (intro h;try (exfalso;omega)))|(apply Zy;exact rfl;all_goals intro h)|((fail_if_success (refine Q1 ?_));apply Zb;exact rfl;exact rfl;all_goals (intro h;try (exfalso;omega)))|((fail_if_success (refine Q1 ?_));apply ZW;exact rfl;exact rfl;all_goals intro h)|fail)
 refine Q1 ?_;refine Q36 (hc:=El hA16 (by decide)) ?_;rintro _ w17 ⟨s17,hA17,hg17,hz17⟩;refine ⟨(by first|exact .inl rfl|exact .inr (Bd.of_grown hg17 (fun k hk=>by injection hk with hk;subst hk;simp [AA]))),?_⟩
 have hx17:Ext w5 w17:=hx16.own hg17 (fun k hk=>by injection hk;have:w15.drew.heap.size=w15.heap.size:=rfl;omega)
 repeat' (first|refine R1 ?_|(refine Q1 ?_;first|(refine Q2 (hu:=by (first|exact T.f164_1|exact T.f164_2|exact T.f123_1|exact T.f164_0|exact T.f123_0)) ?_)|(refine Q3 (hu:=by (first|exact T.p3|exact T.p40|exact T.p68)) ?_)|(refine Q31 (hu:=by (first|exact T.p3|exact T.p40|exact T.p68)) ?_)|(refine Q44 (hu:=by (first|exact T.p3|exact T.p40|exact T.p68)) ?_)|(refine Q9 (hu:=by (first|exact T.p3|exact T.p40|exact T.p68)) ?_)|(refine Q6 (hu:=T.s40) ?_)|refine Q74 T.ar138 ?_|refine Q96 T.i3 T.i66 ?_|refine Q96 T.i229 T.i66 ?_)|refine R2 ?_|(apply Za;exact rfl;all_goals (intro h;try (exfalso;omega)))|(apply Zy;exact rfl;all_goals intro h)|((fail_if_success (refine Q1 ?_));apply Zb;exact rfl;exact rfl;all_goals (intro h;try (exfalso;omega)))|((fail_if_success (refine Q1 ?_));apply ZW;exact rfl;exact rfl;all_goals intro h)|fail)
 refine Zf 1 [a13] [0,1,2,3,4,5] mixed (by decide +kernel) ?_
 have hx18:Ext w5 w17.drew:=Ext.drew hx17
 have hA18:Blk w17.drew.heap a13 138 (BZ.enc s17):=hA17
 have hK18:=hK5.blk.ext hx18
 repeat' (first|refine R1 ?_|(refine Q1 ?_;first|(refine Q65 T.ar138 (q:=17) (r:=21) ?_)|refine Q47 T.i3 T.i66 ?_|(refine Q2 (hu:=by (first|exact T.f164_1|exact T.f164_2|exact T.f123_1|exact T.f164_0|exact T.f123_0)) ?_)|(refine Q3 (hu:=by (first|exact T.p3|exact T.p40|exact T.p68)) ?_)|(refine Q31 (hu:=by (first|exact T.p3|exact T.p40|exact T.p68)) ?_)|(refine Q44 (hu:=by (first|exact T.p3|exact T.p40|exact T.p68)) ?_)|(refine Q9 (hu:=by (first|exact T.p3|exact T.p40|exact T.p68)) ?_)|(refine Q6 (hu:=T.s40) ?_)|refine Q74 T.ar138 ?_|refine Q96 T.i3 T.i66 ?_|refine Q96 T.i229 T.i66 ?_)|refine R2 ?_|(apply Za;exact rfl;all_goals (intro h;try (exfalso;omega)))|(apply Zy;exact rfl;all_goals intro h)|((fail_if_success (refine Q1 ?_));apply Zb;exact rfl;exact rfl;all_goals (intro h;try (exfalso;omega)))|((fail_if_success (refine Q1 ?_));apply ZW;exact rfl;exact rfl;all_goals intro h)|fail)
 refine Q1 ?_;refine Q36 (hc:=El hA18 (by decide)) ?_;rintro _ w19 ⟨s19,hA19,hg19,hz19⟩;refine ⟨(by first|exact .inl rfl|exact .inr (Bd.of_grown hg19 (fun k hk=>by injection hk with hk;subst hk;simp [AA]))),?_⟩
 have hx19:Ext w5 w19:=hx18.own hg19 (fun k hk=>by injection hk;omega)
 repeat' (first|refine R1 ?_|(refine Q1 ?_;first|(refine Q2 (hu:=by (first|exact T.f164_1|exact T.f164_2|exact T.f123_1|exact T.f164_0|exact T.f123_0)) ?_)|(refine Q3 (hu:=by (first|exact T.p3|exact T.p40|exact T.p68)) ?_)|(refine Q31 (hu:=by (first|exact T.p3|exact T.p40|exact T.p68)) ?_)|(refine Q44 (hu:=by (first|exact T.p3|exact T.p40|exact T.p68)) ?_)|(refine Q9 (hu:=by (first|exact T.p3|exact T.p40|exact T.p68)) ?_)|(refine Q6 (hu:=T.s40) ?_)|refine Q74 T.ar138 ?_|refine Q96 T.i3 T.i66 ?_|refine Q96 T.i229 T.i66 ?_)|refine R2 ?_|(apply Za;exact rfl;all_goals (intro h;try (exfalso;omega)))|(apply Zy;exact rfl;all_goals intro h)|((fail_if_success (refine Q1 ?_));apply Zb;exact rfl;exact rfl;all_goals (intro h;try (exfalso;omega)))|((fail_if_success (refine Q1 ?_));apply ZW;exact rfl;exact rfl;all_goals intro h)|fail)
 refine Zf 1 [a13] [0,1,2,3,4,5,6] mixed (by decide +kernel) ?_
 have hx20:Ext w5 w19.drew:=Ext.drew hx19
 have hA20:Blk w19.drew.heap a13 138 (BZ.enc s19):=hA19
 have hK20:=hK5.blk.ext hx20
 repeat' (first|refine R1 ?_|(refine Q1 ?_;first|(refine Q65 T.ar138 (q:=21) (r:=25) ?_)|(refine Q2 (hu:=by (first|exact T.f164_1|exact T.f164_2|exact T.f123_1|exact T.f164_0|exact T.f123_0)) ?_)|(refine Q3 (hu:=by (first|exact T.p3|exact T.p40|exact T.p68)) ?_)|(refine Q31 (hu:=by (first|exact T.p3|exact T.p40|exact T.p68)) ?_)|(refine Q44 (hu:=by (first|exact T.p3|exact T.p40|exact T.p68)) ?_)|(refine Q9 (hu:=by (first|exact T.p3|exact T.p40|exact T.p68)) ?_)|(refine Q6 (hu:=T.s40) ?_)|refine Q74 T.ar138 ?_|refine Q96 T.i3 T.i66 ?_|refine Q96 T.i229 T.i66 ?_)|refine R2 ?_|(apply Za;exact rfl;all_goals (intro h;try (exfalso;omega)))|(apply Zy;exact rfl;all_goals intro h)|((fail_if_success (refine Q1 ?_));apply Zb;exact rfl;exact rfl;all_goals (intro h;try (exfalso;omega)))|((fail_if_success (refine Q1 ?_));apply ZW;exact rfl;exact rfl;all_goals intro h)|fail)
 refine Q1 ?_
 refine Q12 Eu (p,bs.length,c) T.s145 ?_
 intro p21 w21 hp21 hsl21 _ hx21 hz21
 have hx21':=hx20.trans hx21
 refine Q1 ?_;refine Q36 (hc:=VE hsl21 (hb5.sl.ext hx21') (by omega)) ?_;rintro _ w22 ⟨z22,rfl,rfl⟩;refine ⟨(by first|exact .inl rfl|exact .inr Ext.rfl'.toS),?_⟩
 repeat' (first|refine R1 ?_|(refine Q1 ?_;first|(refine Q65 T.ar138 (q:=21) (r:=25) ?_)|refine Q47 T.i229 T.i66 ?_|(refine Q2 (hu:=by (first|exact T.f164_1|exact T.f164_2|exact T.f123_1|exact T.f164_0|exact T.f123_0)) ?_)|(refine Q3 (hu:=by (first|exact T.p3|exact T.p40|exact T.p68)) ?_)|(refine Q31 (hu:=by (first|exact T.p3|exact T.p40|exact T.p68)) ?_)|(refine Q44 (hu:=by (first|exact T.p3|exact T.p40|exact T.p68)) ?_)|(refine Q9 (hu:=by (first|exact T.p3|exact T.p40|exact T.p68)) ?_)|(refine Q6 (hu:=T.s40) ?_)|refine Q74 T.ar138 ?_|refine Q96 T.i3 T.i66 ?_|refine Q96 T.i229 T.i66 ?_)|refine R2 ?_|(apply Za;exact rfl;all_goals (intro h;try (exfalso;omega)))|(apply Zy;exact rfl;all_goals intro h)|((fail_if_success (refine Q1 ?_));apply Zb;exact rfl;exact rfl;all_goals (intro h;try (exfalso;omega)))|((fail_if_success (refine Q1 ?_));apply ZW;exact rfl;exact rfl;all_goals intro h)|fail)
 refine Q1 ?_;refine Q36 (hc:=El (hA20.ext hx21) (by decide)) ?_;rintro _ w23 ⟨s23,hA23,hg23,hz23⟩;refine ⟨(by first|exact .inl rfl|exact .inr (Bd.of_grown hg23 (fun k hk=>by injection hk with hk;subst hk;simp [AA]))),?_⟩
 have hx23:Ext w5 w23:=hx21'.own hg23 (fun k hk=>by injection hk;omega)
 repeat' (first|refine R1 ?_|(refine Q1 ?_;first|(refine Q2 (hu:=by (first|exact T.f164_1|exact T.f164_2|exact T.f123_1|exact T.f164_0|exact T.f123_0)) ?_)|(refine Q3 (hu:=by (first|exact T.p3|exact T.p40|exact T.p68)) ?_)|(refine Q31 (hu:=by (first|exact T.p3|exact T.p40|exact T.p68)) ?_)|(refine Q44 (hu:=by (first|exact T.p3|exact T.p40|exact T.p68)) ?_)|(refine Q9 (hu:=by (first|exact T.p3|exact T.p40|exact T.p68)) ?_)|(refine Q6 (hu:=T.s40) ?_)|refine Q74 T.ar138 ?_|refine Q96 T.i3 T.i66 ?_|refine Q96 T.i229 T.i66 ?_)|refine R2 ?_|(apply Za;exact rfl;all_goals (intro h;try (exfalso;omega)))|(apply Zy;exact rfl;all_goals intro h)|((fail_if_success (refine Q1 ?_));apply Zb;exact rfl;exact rfl;all_goals (intro h;try (exfalso;omega)))|((fail_if_success (refine Q1 ?_));apply ZW;exact rfl;exact rfl;all_goals intro h)|fail)
 refine Zf 2 [] [0,1,2,3,4,5,6,7] mixed (by decide +kernel) ?_
 have hx24:Ext w5 w23.drew:=Ext.drew hx23
 have hA24:Blk w23.drew.heap a13 138 (BZ.enc s23):=hA23
 have hL24:=hL5.ext hx24 0
 have hL24b:=hL24.blk
 have hS24:SlJ (rt g5 w5 0) w23.drew (some (adr (bx a13) 0)) 64 s23.1:=⟨UH hA24,fun a ha=>by
  injection ha with ha;subst ha
  exact ⟨hA24.lt,by rw [show (adr (bx a13) 0).block=a13 from rfl,CU (by omega)];decide,(Blk.noB hA24 (by unfold ixT;decide)).not⟩⟩
 have hwr:=JN (ix:=ix) (at_:=40) (n:=1) (hD5.ext hx24 0) hS24 (by rw [s23.2];decide) (by rw [s23.2];decide) (by rw [s23.2]) (by omega) (by omega) (by simp) (by simp)
 rw [s23.2] at hwr
 repeat' (first|refine R1 ?_|(refine Q1 ?_;first|refine Q50 T.ar138 ?_|(refine Q2 (hu:=by (first|exact T.f164_1|exact T.f164_2|exact T.f123_1|exact T.f164_0|exact T.f123_0)) ?_)|(refine Q3 (hu:=by (first|exact T.p3|exact T.p40|exact T.p68)) ?_)|(refine Q31 (hu:=by (first|exact T.p3|exact T.p40|exact T.p68)) ?_)|(refine Q44 (hu:=by (first|exact T.p3|exact T.p40|exact T.p68)) ?_)|(refine Q9 (hu:=by (first|exact T.p3|exact T.p40|exact T.p68)) ?_)|(refine Q6 (hu:=T.s40) ?_)|refine Q74 T.ar138 ?_|refine Q96 T.i3 T.i66 ?_|refine Q96 T.i229 T.i66 ?_)|refine R2 ?_|(apply Za;exact rfl;all_goals (intro h;try (exfalso;omega)))|(apply Zy;exact rfl;all_goals intro h)|((fail_if_success (refine Q1 ?_));apply Zb;exact rfl;exact rfl;all_goals (intro h;try (exfalso;omega)))|((fail_if_success (refine Q1 ?_));apply ZW;exact rfl;exact rfl;all_goals intro h)|fail)
 refine Q1 ?_;refine Q4 (hc:=hwr) ?_;rintro _ w25 ⟨rfl,g25,ps25,hS25,hD25,hpl25,hpx25⟩;refine Kc ?_
 have hL25:=hL24.stp hS25 (by decide)
 have hL25b:=hL25.blk
 repeat' (first|refine R1 ?_|(refine Q1 ?_;first|(refine Q2 (hu:=by (first|exact T.f164_1|exact T.f164_2|exact T.f123_1|exact T.f164_0|exact T.f123_0)) ?_)|(refine Q3 (hu:=by (first|exact T.p3|exact T.p40|exact T.p68)) ?_)|(refine Q31 (hu:=by (first|exact T.p3|exact T.p40|exact T.p68)) ?_)|(refine Q44 (hu:=by (first|exact T.p3|exact T.p40|exact T.p68)) ?_)|(refine Q9 (hu:=by (first|exact T.p3|exact T.p40|exact T.p68)) ?_)|(refine Q6 (hu:=T.s40) ?_)|refine Q74 T.ar138 ?_|refine Q96 T.i3 T.i66 ?_|refine Q96 T.i229 T.i66 ?_)|refine R2 ?_|(apply Za;exact rfl;all_goals (intro h;try (exfalso;omega)))|(apply Zy;exact rfl;all_goals intro h)|((fail_if_success (refine Q1 ?_));apply Zb;exact rfl;exact rfl;all_goals (intro h;try (exfalso;omega)))|((fail_if_success (refine Q1 ?_));apply ZW;exact rfl;exact rfl;all_goals intro h)|fail)
 all_goals try (exfalso;simp only at *;omega)
 refine Q1 ?_;refine Q4 (hc:=Lx (ix:=ix) hD25 hpx25 (by omega)) ?_;rintro _ w26 ⟨rfl,g26,ds26,hS26,hD26,hl26⟩;refine Kc ?_
 repeat' (first|refine R1 ?_|(refine Q1 ?_;first|(refine Q2 (hu:=by (first|exact T.f164_1|exact T.f164_2|exact T.f123_1|exact T.f164_0|exact T.f123_0)) ?_)|(refine Q3 (hu:=by (first|exact T.p3|exact T.p40|exact T.p68)) ?_)|(refine Q31 (hu:=by (first|exact T.p3|exact T.p40|exact T.p68)) ?_)|(refine Q44 (hu:=by (first|exact T.p3|exact T.p40|exact T.p68)) ?_)|(refine Q9 (hu:=by (first|exact T.p3|exact T.p40|exact T.p68)) ?_)|(refine Q6 (hu:=T.s40) ?_)|refine Q74 T.ar138 ?_|refine Q96 T.i3 T.i66 ?_|refine Q96 T.i229 T.i66 ?_)|refine R2 ?_|(apply Za;exact rfl;all_goals (intro h;try (exfalso;omega)))|(apply Zy;exact rfl;all_goals intro h)|((fail_if_success (refine Q1 ?_));apply Zb;exact rfl;exact rfl;all_goals (intro h;try (exfalso;omega)))|((fail_if_success (refine Q1 ?_));apply ZW;exact rfl;exact rfl;all_goals intro h)|fail)
 refine Kr Tryz.results69 ?_
 exact ⟨rfl,g26,ds26,((hS05.trans (Stq.of_ext hx24 0)).trans hS25).trans hS26,hD26,by omega⟩
theorem NQ {g:Nat→Nat} {w:World} {d so gen:Nat} (hL:Bk g w 6 so 164 (slC d gen)):Ctr Tryz.prog 68 [.pointer (some (adr (bx so) 0))] w (fun v w'=>v=.int .i64 2496∧w=w'):=by
 have hb:=hL.blk
 refine Ac Tryz.func68 Tryz.ntmps68 rfl rfl rfl ?_
 repeat' (first|refine R1 ?_|(refine Q1 ?_;first|(refine Q2 (hu:=T.f164_2) ?_)|(refine Q3 (hu:=T.p3) ?_)|(refine Q31 (hu:=T.p3) ?_)|(refine Q44 (hu:=T.p3) ?_)|(refine Q9 (hu:=T.p3) ?_))|refine R2 ?_|(apply Za;exact rfl;all_goals (intro h;try (exfalso;omega)))|(apply Zy;exact rfl;all_goals intro h)|((fail_if_success (refine Q1 ?_));apply Zb;exact rfl;exact rfl;all_goals (intro h;try (exfalso;omega)))|((fail_if_success (refine Q1 ?_));apply ZW;exact rfl;exact rfl;all_goals intro h)|fail)
 refine Kr Tryz.results68 ?_
 exact ⟨rfl,rfl⟩
set_option maxRecDepth 20000 in
theorem NS {ix:Nat} {g:Nat→Nat} {w:World} {d so c:Nat} {st:Nat} {ds:List Sec} {p:Option Addr} {bs:List UInt8} (hD:AZ g w d ds []) (hL:Bk g w 6 so 164 (slC d 0)) (hb:SlJ g w p c bs) (h1:1≤bs.length) (hlen:bs.length≤2400) (hds:ds.length≤65536) (hfit:80≤ds.length) (hst:st≤1000000) :
  Ctr Tryz.prog 47 [.pointer (some (adr (bx so) 0)),.agg #[.int .i64 (st:Int),.slice p bs.length c]] w (fun v w'=>v=.int .i64 0∧∃g' ds' w1,Stq ix [1] g g' w w1∧AZ g' w1 d ds' []∧ds'.length=ds.length∧w1.grownBy w' (some so)∧Blk w'.heap so 164 (slC d 1)):=by
 refine Ac Tryz.func47 Tryz.ntmps47 rfl rfl rfl ?_
 repeat' (first|refine R1 ?_|(refine Q1 ?_;first|(refine Q2 (hu:=by (first|exact T.f164_4|exact T.f123_0|exact T.f123_1|exact T.f164_3)) ?_)|(refine Q3 (hu:=by (first|exact T.p4|exact T.p3|exact T.p40)) ?_)|(refine Q31 (hu:=by (first|exact T.p4|exact T.p3|exact T.p40)) ?_)|(refine Q44 (hu:=by (first|exact T.p4|exact T.p3|exact T.p40)) ?_)|(refine Q9 (hu:=by (first|exact T.p4|exact T.p3|exact T.p40)) ?_)|(refine Q6 (hu:=T.s40) ?_)|refine Q11 T.a123 ?_|refine Q14 T.a123 ?_|(refine Bn T.a123 ?_)|refine Q34 T.a123 ?_)|refine R2 ?_|(apply Za;exact rfl;all_goals (intro h;try (exfalso;omega)))|(apply Zy;exact rfl;all_goals intro h)|((fail_if_success (refine Q1 ?_));apply Zb;exact rfl;exact rfl;all_goals (intro h;try (exfalso;omega)))|((fail_if_success (refine Q1 ?_));apply ZW;exact rfl;exact rfl;all_goals intro h)|fail)
 refine Q1 ?_;refine Q8 ?_;intro a3 w1 ha3 hA3 hx1 hs1
 replace hA3:Blk w1.heap a3 123 [.int .i64 (st:Int),.slice p bs.length c]:=hA3
 have hL1:=hL.ext hx1 0
 have hL1b:=hL1.blk
 repeat' (first|refine R1 ?_|(refine Q1 ?_;first|(refine Q2 (hu:=by (first|exact T.f164_4|exact T.f123_0|exact T.f123_1|exact T.f164_3)) ?_)|(refine Q3 (hu:=by (first|exact T.p4|exact T.p3|exact T.p40)) ?_)|(refine Q31 (hu:=by (first|exact T.p4|exact T.p3|exact T.p40)) ?_)|(refine Q44 (hu:=by (first|exact T.p4|exact T.p3|exact T.p40)) ?_)|(refine Q9 (hu:=by (first|exact T.p4|exact T.p3|exact T.p40)) ?_)|(refine Q6 (hu:=T.s40) ?_)|refine Q11 T.a123 ?_|refine Q14 T.a123 ?_|(refine Bn T.a123 ?_)|refine Q34 T.a123 ?_)|refine R2 ?_|(apply Za;exact rfl;all_goals (intro h;try (exfalso;omega)))|(apply Zy;exact rfl;all_goals intro h)|((fail_if_success (refine Q1 ?_));apply Zb;exact rfl;exact rfl;all_goals (intro h;try (exfalso;omega)))|((fail_if_success (refine Q1 ?_));apply ZW;exact rfl;exact rfl;all_goals intro h)|fail)
 all_goals try (exfalso;simp only at *;omega)
 refine Zl 2 [] (.node [0,3] (.alt 1 (.node [] (.alt 2 (.leaf [4,5,6]) (.alt 4 (.leaf [2,5,6]) .stop))) (.alt 4 (.leaf [1,2,5,6]) .stop))) mixed (by decide +kernel) ?_
 have hx2:Ext w w1.drew:=Ext.drew hx1
 have hx12:Ext w1 w1.drew:=Ext.drew (Ext.rfl' (w:=w1))
 have hA32:=hA3.ext hx12
 have hL2:=hL.ext hx2 0
 have hL2b:=hL2.blk
 repeat' (first|refine R1 ?_|(refine Q1 ?_;first|(refine Q4 (f:=68) (hc:=NQ hL2) ?_;rintro _ _ ⟨rfl,rfl⟩;refine Kc ?_)|(refine Q2 (hu:=by (first|exact T.f164_4|exact T.f123_0|exact T.f123_1|exact T.f164_3)) ?_)|(refine Q3 (hu:=by (first|exact T.p4|exact T.p3|exact T.p40)) ?_)|(refine Q31 (hu:=by (first|exact T.p4|exact T.p3|exact T.p40)) ?_)|(refine Q44 (hu:=by (first|exact T.p4|exact T.p3|exact T.p40)) ?_)|(refine Q9 (hu:=by (first|exact T.p4|exact T.p3|exact T.p40)) ?_)|(refine Q6 (hu:=T.s40) ?_)|refine Q11 T.a123 ?_|refine Q14 T.a123 ?_|(refine Bn T.a123 ?_)|refine Q34 T.a123 ?_)|(refine Zj ?_)|(refine Zp ?_)|(apply Zv)|refine R2 ?_|(exact Zq)|(apply Za;exact rfl;all_goals (intro h;try (exfalso;omega)))|(apply Zy;exact rfl;all_goals intro h)|((fail_if_success (refine Q1 ?_));apply Zb;exact rfl;exact rfl;all_goals (intro h;try (exfalso;omega)))|((fail_if_success (refine Q1 ?_));apply ZW;exact rfl;exact rfl;all_goals intro h)|fail)
 all_goals try (exfalso;simp only at *;omega)
 all_goals
  refine Zl 2 [] (.node [0,1,2,3,4] (.alt 5 (.leaf [6,7,8]) .stop)) mixed (by decide +kernel) ?_
  have hx3:Ext w w1.drew.drew:=Ext.drew hx2
  have hx13:Ext w1 w1.drew.drew:=Ext.drew hx12
  have hA33:=hA3.ext hx13
  have hL3:=hL.ext hx3 0
  have hL3b:=hL3.blk
  repeat' (first|refine R1 ?_|(refine Q1 ?_;first|(refine Q2 (hu:=by (first|exact T.f164_4|exact T.f123_0|exact T.f123_1|exact T.f164_3)) ?_)|(refine Q3 (hu:=by (first|exact T.p4|exact T.p3|exact T.p40)) ?_)|(refine Q31 (hu:=by (first|exact T.p4|exact T.p3|exact T.p40)) ?_)|(refine Q44 (hu:=by (first|exact T.p4|exact T.p3|exact T.p40)) ?_)|(refine Q9 (hu:=by (first|exact T.p4|exact T.p3|exact T.p40)) ?_)|(refine Q6 (hu:=T.s40) ?_)|refine Q11 T.a123 ?_|refine Q14 T.a123 ?_|(refine Bn T.a123 ?_)|refine Q34 T.a123 ?_)|(refine Zj ?_)|(refine Zp ?_)|(apply Zv)|refine R2 ?_|(exact Zq)|(apply Za;exact rfl;all_goals (intro h;try (exfalso;omega)))|(apply Zy;exact rfl;all_goals intro h)|((fail_if_success (refine Q1 ?_));apply Zb;exact rfl;exact rfl;all_goals (intro h;try (exfalso;omega)))|((fail_if_success (refine Q1 ?_));apply ZW;exact rfl;exact rfl;all_goals intro h)|fail)
  all_goals
   refine Q1 ?_;refine Q4 (hc:=MM (ix:=ix) (hD.ext hx3 0) hL3 (hb.stp (ix:=ix) (Stq.of_ext hx3 0)) h1 hlen hds hfit) ?_;rintro _ w4 ⟨rfl,g4,ds4,hS4,hD4,hl4⟩;refine Kc ?_
   have hL4:=hL3.stp hS4 (by decide)
   have hL4b:=hL4.blk
   repeat' (first|refine R1 ?_|(refine Q1 ?_;first|(refine Q2 (hu:=by (first|exact T.f164_4|exact T.f123_0|exact T.f123_1|exact T.f164_3)) ?_)|(refine Q3 (hu:=by (first|exact T.p4|exact T.p3|exact T.p40)) ?_)|(refine Q31 (hu:=by (first|exact T.p4|exact T.p3|exact T.p40)) ?_)|(refine Q44 (hu:=by (first|exact T.p4|exact T.p3|exact T.p40)) ?_)|(refine Q9 (hu:=by (first|exact T.p4|exact T.p3|exact T.p40)) ?_)|(refine Q6 (hu:=T.s40) ?_)|refine Q11 T.a123 ?_|refine Q14 T.a123 ?_|(refine Bn T.a123 ?_)|refine Q34 T.a123 ?_)|(refine Zj ?_)|(refine Zp ?_)|(apply Zv)|refine R2 ?_|(exact Zq)|(apply Za;exact rfl;all_goals (intro h;try (exfalso;omega)))|(apply Zy;exact rfl;all_goals intro h)|((fail_if_success (refine Q1 ?_));apply Zb;exact rfl;exact rfl;all_goals (intro h;try (exfalso;omega)))|((fail_if_success (refine Q1 ?_));apply ZW;exact rfl;exact rfl;all_goals intro h)|fail)
   all_goals try (exfalso;simp only at *;omega)
   refine Q1 ?_;refine Q5 T.z3 hL4b ?_;intro w5 hA5 hg5 hs5
   replace hA5:Blk w5.heap so 164 (slC d 1):=hA5
   repeat' (first|refine R1 ?_|(refine Q1 ?_;first|(refine Q2 (hu:=by (first|exact T.f164_4|exact T.f123_0|exact T.f123_1|exact T.f164_3)) ?_)|(refine Q3 (hu:=by (first|exact T.p4|exact T.p3|exact T.p40)) ?_)|(refine Q31 (hu:=by (first|exact T.p4|exact T.p3|exact T.p40)) ?_)|(refine Q44 (hu:=by (first|exact T.p4|exact T.p3|exact T.p40)) ?_)|(refine Q9 (hu:=by (first|exact T.p4|exact T.p3|exact T.p40)) ?_)|(refine Q6 (hu:=T.s40) ?_)|refine Q11 T.a123 ?_|refine Q14 T.a123 ?_|(refine Bn T.a123 ?_)|refine Q34 T.a123 ?_)|refine R2 ?_|(apply Za;exact rfl;all_goals (intro h;try (exfalso;omega)))|(apply Zy;exact rfl;all_goals intro h)|((fail_if_success (refine Q1 ?_));apply Zb;exact rfl;exact rfl;all_goals (intro h;try (exfalso;omega)))|((fail_if_success (refine Q1 ?_));apply ZW;exact rfl;exact rfl;all_goals intro h)|fail)
   refine Kr Tryz.results47 ?_
   exact ⟨rfl,g4,ds4,w4,(Stq.of_ext hx3 0).trans hS4,hD4,hl4,hg5,hA5⟩
set_option maxRecDepth 20000 in
theorem OV {g:Nat→Nat} {w:World} {d lg st nn used last:Nat} (hL:Bk g w 2 lg 162 (lgC d st nn used last)) (hl:last≤1000000):Ctr Tryz.prog 50 [.pointer (some (adr (bx lg) 0)),.int .i64 (last:Int)] w (fun v w'=>v=.int .i64 0∧w.grownBy w' (some lg)∧Blk w'.heap lg 162 (lgC d st nn 0 last)):=by
 have hb:=hL.blk
 refine Ac Tryz.func50 Tryz.ntmps50 rfl rfl rfl ?_
 repeat' (first|refine R1 ?_|(refine Q1 ?_;first|(refine Q2 (hu:=by (first|exact T.f162_5|exact T.f162_4|exact T.f162_3)) ?_)|(refine Q3 (hu:=by (first|exact T.p4|exact T.p3)) ?_)|(refine Q31 (hu:=by (first|exact T.p4|exact T.p3)) ?_)|(refine Q44 (hu:=by (first|exact T.p4|exact T.p3)) ?_)|(refine Q9 (hu:=by (first|exact T.p4|exact T.p3)) ?_))|refine R2 ?_|(apply Za;exact rfl;all_goals (intro h;try (exfalso;omega)))|(apply Zy;exact rfl;all_goals intro h)|((fail_if_success (refine Q1 ?_));apply Zb;exact rfl;exact rfl;all_goals (intro h;try (exfalso;omega)))|((fail_if_success (refine Q1 ?_));apply ZW;exact rfl;exact rfl;all_goals intro h)|fail)
 all_goals try (exfalso;simp only at *;omega)
 refine Q1 ?_;refine Q5 T.z3 hb ?_;intro w1 hA1 hg1 hs1
 repeat' (first|refine R1 ?_|(refine Q1 ?_;first|(refine Q2 (hu:=by (first|exact T.f162_5|exact T.f162_4|exact T.f162_3)) ?_)|(refine Q3 (hu:=by (first|exact T.p4|exact T.p3)) ?_)|(refine Q31 (hu:=by (first|exact T.p4|exact T.p3)) ?_)|(refine Q44 (hu:=by (first|exact T.p4|exact T.p3)) ?_)|(refine Q9 (hu:=by (first|exact T.p4|exact T.p3)) ?_))|refine R2 ?_|(apply Za;exact rfl;all_goals (intro h;try (exfalso;omega)))|(apply Zy;exact rfl;all_goals intro h)|((fail_if_success (refine Q1 ?_));apply Zb;exact rfl;exact rfl;all_goals (intro h;try (exfalso;omega)))|((fail_if_success (refine Q1 ?_));apply ZW;exact rfl;exact rfl;all_goals intro h)|fail)
 refine Q1 ?_;refine Q5 T.z3 hA1 ?_;intro w2 hA2 hg2 hs2
 repeat' (first|refine R1 ?_|(refine Q1 ?_;first|(refine Q2 (hu:=by (first|exact T.f162_5|exact T.f162_4|exact T.f162_3)) ?_)|(refine Q3 (hu:=by (first|exact T.p4|exact T.p3)) ?_)|(refine Q31 (hu:=by (first|exact T.p4|exact T.p3)) ?_)|(refine Q44 (hu:=by (first|exact T.p4|exact T.p3)) ?_)|(refine Q9 (hu:=by (first|exact T.p4|exact T.p3)) ?_))|refine R2 ?_|(apply Za;exact rfl;all_goals (intro h;try (exfalso;omega)))|(apply Zy;exact rfl;all_goals intro h)|((fail_if_success (refine Q1 ?_));apply Zb;exact rfl;exact rfl;all_goals (intro h;try (exfalso;omega)))|((fail_if_success (refine Q1 ?_));apply ZW;exact rfl;exact rfl;all_goals intro h)|fail)
 refine Kr Tryz.results50 ?_
 exact ⟨rfl,Xz hg1 hg2,hA2⟩
variable {F : Nat → Prop}
set_option maxRecDepth 20000 in
theorem NV (h0:StR w st ix F key vs last mark) (hv:∃v,Gd vs last clock v) :
  Ctr Tryz.prog 49 [.pointer (some (adr (bx st) 0)),.int .i64 clock] w (fun v w'=>∃p c x,v=.slice p 1 c∧Go.V.Own w' w.heap.size 173 eWt p c [x]∧x.key=key∧x.gone=false∧Dk x.val∧(∃y∈vs,x.val.text=y.val.text)∧Ext w w'):=by
 have hb:=h0.box
 have hg:=h0.good
 have hL:=L1.len (key:=key) (vs:=vs)
 have hne:¬vs=[]:=fun e=>by
  obtain ⟨v,n,_,_,h,_⟩:=hv
  rw [e] at h;simp at h
 refine Ac Tryz.func49 Tryz.ntmps49 rfl rfl rfl ?_
 repeat' (first|refine R1 ?_|(refine Q1 ?_;first|(refine Q4 (f:=64) (hc:=VQ h0.ix (by omega)) ?_;rintro _ w1 ⟨p1,c1,rfl,hO1,hx1⟩;refine Kc ?_;replace hb:=hb.ext (Kx hx1))|(refine Q2 (hu:=by (first|exact T.f86_0|exact T.f86_1)) ?_)|(refine Q3 (hu:=by (first|exact T.p84|exact T.p9|exact T.p3)) ?_)|(refine Q31 (hu:=by (first|exact T.p84|exact T.p9|exact T.p3)) ?_)|(refine Q44 (hu:=by (first|exact T.p84|exact T.p9|exact T.p3)) ?_)|(refine Q9 (hu:=by (first|exact T.p84|exact T.p9|exact T.p3)) ?_)|(refine Q6 (hu:=T.s61) ?_)|refine Q13 T.s61 ?_|refine Q25 T.s61 ?_|refine Q11 T.a171 ?_|refine Q14 T.a171 ?_|(refine Bn T.a171 ?_)|refine Q34 T.a171 ?_)|refine R2 ?_|(apply Za;exact rfl;all_goals (intro h;try (exfalso;omega)))|(apply Zy;exact rfl;all_goals intro h)|((fail_if_success (refine Q1 ?_));apply Zb;exact rfl;exact rfl;all_goals (intro h;try (exfalso;omega)))|((fail_if_success (refine Q1 ?_));apply ZW;exact rfl;exact rfl;all_goals intro h)|fail)
 rw [Xy] at hO1 ⊢
 rw [if_neg hne] at hO1 ⊢
 refine Zm ?_
 have h1:=h0.ext hx1
 repeat' (first|refine R1 ?_|(refine Q1 ?_;first|(refine Q10 T.s61 hO1.sl.ok (q:=0) (hj:=rfl) (h1:=by (simp)) ?_)|(refine Q9 (q:=0) (e:=Ar) (hu:=T.p9) (hs:=hO1.sl) (hq:=(show [key][0]?=some key from rfl)) ?_)|(refine Q4 (f:=72) (hc:=WA h1) ?_;rintro _ w2 ⟨r,ok,rfl,hx2,hr0,hr1⟩;refine Kc ?_;replace hb:=hb.ext (Kx hx2))|(refine Q2 (hu:=by (first|exact T.f86_0|exact T.f86_1)) ?_)|(refine Q3 (hu:=by (first|exact T.p84|exact T.p9|exact T.p3)) ?_)|(refine Q31 (hu:=by (first|exact T.p84|exact T.p9|exact T.p3)) ?_)|(refine Q44 (hu:=by (first|exact T.p84|exact T.p9|exact T.p3)) ?_)|(refine Q9 (hu:=by (first|exact T.p84|exact T.p9|exact T.p3)) ?_)|(refine Q6 (hu:=T.s61) ?_)|refine Q13 T.s61 ?_|refine Q25 T.s61 ?_|refine Q11 T.a171 ?_|refine Q14 T.a171 ?_|(refine Bn T.a171 ?_)|refine Q34 T.a171 ?_)|refine R2 ?_|(apply Za;exact rfl;all_goals (intro h;try (exfalso;omega)))|(apply Zy;exact rfl;all_goals intro h)|((fail_if_success (refine Q1 ?_));apply Zb;exact rfl;exact rfl;all_goals (intro h;try (exfalso;omega)))|((fail_if_success (refine Q1 ?_));apply ZW;exact rfl;exact rfl;all_goals intro h)|fail)
 obtain rfl:ok=true:=by
  cases ok with
  | true=>rfl
  | false=>obtain ⟨v,hv⟩:=hv;exact absurd hv ((hr0 rfl).2 v)
 obtain ⟨v,hsv,hva⟩:=hr1 rfl
 have hvm:v∈vs:=HV hsv
 have hvT:=hg.all v hvm
 obtain ⟨t,ht1,ht2⟩:=hvT.val
 refine Q1 ?_;refine Q7 T.zero171 ?_;intro a3 w3 ha3 hA3 hx3 hs3
 repeat' (first|refine R1 ?_|(refine Q1 ?_;first|(refine Q2 (hu:=by (first|exact T.f86_0|exact T.f86_1)) ?_)|(refine Q3 (hu:=by (first|exact T.p84|exact T.p9|exact T.p3)) ?_)|(refine Q31 (hu:=by (first|exact T.p84|exact T.p9|exact T.p3)) ?_)|(refine Q44 (hu:=by (first|exact T.p84|exact T.p9|exact T.p3)) ?_)|(refine Q9 (hu:=by (first|exact T.p84|exact T.p9|exact T.p3)) ?_)|(refine Q6 (hu:=T.s61) ?_)|refine Q13 T.s61 ?_|refine Q25 T.s61 ?_|refine Q11 T.a171 ?_|refine Q14 T.a171 ?_|(refine Bn T.a171 ?_)|refine Q34 T.a171 ?_)|refine R2 ?_|(apply Za;exact rfl;all_goals (intro h;try (exfalso;omega)))|(apply Zy;exact rfl;all_goals intro h)|((fail_if_success (refine Q1 ?_));apply Zb;exact rfl;exact rfl;all_goals (intro h;try (exfalso;omega)))|((fail_if_success (refine Q1 ?_));apply ZW;exact rfl;exact rfl;all_goals intro h)|fail)
 refine Q1 ?_;refine Q5 T.z171 hA3 ?_;intro w4 hA4 hg4 hs4
 replace hA4:Blk w4.heap a3 171 (AO.enc r):=hA4
 repeat' (first|refine R1 ?_|(refine Q1 ?_;first|(refine Q11 T.a171 (hb:=hA4) ?_)|(refine Q20 (.agg (eWt.enc (WN key r)).toArray) (Rt _ _) (t:=173) ?_)|(refine Q2 (hu:=by (first|exact T.f86_0|exact T.f86_1)) ?_)|(refine Q3 (hu:=by (first|exact T.p84|exact T.p9|exact T.p3)) ?_)|(refine Q31 (hu:=by (first|exact T.p84|exact T.p9|exact T.p3)) ?_)|(refine Q44 (hu:=by (first|exact T.p84|exact T.p9|exact T.p3)) ?_)|(refine Q9 (hu:=by (first|exact T.p84|exact T.p9|exact T.p3)) ?_)|(refine Q6 (hu:=T.s61) ?_)|refine Q13 T.s61 ?_|refine Q25 T.s61 ?_|refine Q11 T.a171 ?_|refine Q14 T.a171 ?_|(refine Bn T.a171 ?_)|refine Q34 T.a171 ?_)|refine R2 ?_|(apply Za;exact rfl;all_goals (intro h;try (exfalso;omega)))|(apply Zy;exact rfl;all_goals intro h)|((fail_if_success (refine Q1 ?_));apply Zb;exact rfl;exact rfl;all_goals (intro h;try (exfalso;omega)))|((fail_if_success (refine Q1 ?_));apply ZW;exact rfl;exact rfl;all_goals intro h)|fail)
 all_goals try (exfalso;simp only at *;omega)
 refine Q1 ?_
 refine Q12 eWt (WN key r) T.s120 ?_
 intro p7 w7 hp7 hs7 _ hx7 hz7
 have hx24:Ext w2 w4:=hx3.own hg4 (fun k hk=>by injection hk;omega)
 have hx07:=((hx1.trans hx2).trans hx24).trans hx7
 have hz07:=hx07.size
 have hnil:Go.V.Own w7 w.heap.size 173 eWt none 0 []:=Go.V.Own.nil _ _ _ _
 repeat' (first|refine R1 ?_|(refine Q1 ?_;first|(refine Q16 T.s120 hnil hs7 (xs:=[]) (B:=w.heap.size) ?_;intro p8 c8 w8 ha8)|(refine Q2 (hu:=by (first|exact T.f86_0|exact T.f86_1)) ?_)|(refine Q3 (hu:=by (first|exact T.p84|exact T.p9|exact T.p3)) ?_)|(refine Q31 (hu:=by (first|exact T.p84|exact T.p9|exact T.p3)) ?_)|(refine Q44 (hu:=by (first|exact T.p84|exact T.p9|exact T.p3)) ?_)|(refine Q9 (hu:=by (first|exact T.p84|exact T.p9|exact T.p3)) ?_)|(refine Q6 (hu:=T.s61) ?_)|refine Q13 T.s61 ?_|refine Q25 T.s61 ?_|refine Q11 T.a171 ?_|refine Q14 T.a171 ?_|(refine Bn T.a171 ?_)|refine Q34 T.a171 ?_)|refine R2 ?_|(apply Za;exact rfl;all_goals (intro h;try (exfalso;omega)))|(apply Zy;exact rfl;all_goals intro h)|((fail_if_success (refine Q1 ?_));apply Zb;exact rfl;exact rfl;all_goals (intro h;try (exfalso;omega)))|((fail_if_success (refine Q1 ?_));apply ZW;exact rfl;exact rfl;all_goals intro h)|fail)
 refine Zg ?_
 repeat' (first|refine R1 ?_|(refine Q1 ?_;first|(refine Q2 (hu:=by (first|exact T.f86_0|exact T.f86_1)) ?_)|(refine Q3 (hu:=by (first|exact T.p84|exact T.p9|exact T.p3)) ?_)|(refine Q31 (hu:=by (first|exact T.p84|exact T.p9|exact T.p3)) ?_)|(refine Q44 (hu:=by (first|exact T.p84|exact T.p9|exact T.p3)) ?_)|(refine Q9 (hu:=by (first|exact T.p84|exact T.p9|exact T.p3)) ?_)|(refine Q6 (hu:=T.s61) ?_)|refine Q13 T.s61 ?_|refine Q25 T.s61 ?_|refine Q11 T.a171 ?_|refine Q14 T.a171 ?_|(refine Bn T.a171 ?_)|refine Q34 T.a171 ?_)|refine R2 ?_|(apply Za;exact rfl;all_goals (intro h;try (exfalso;omega)))|(apply Zy;exact rfl;all_goals intro h)|((fail_if_success (refine Q1 ?_));apply Zb;exact rfl;exact rfl;all_goals (intro h;try (exfalso;omega)))|((fail_if_success (refine Q1 ?_));apply ZW;exact rfl;exact rfl;all_goals intro h)|fail)
 all_goals try (exfalso;omega)
 refine Kr Tryz.results49 ?_
 have hx8:Ext w7 w8:=Ext.of_grown ha8.grown
 have hva':=hva.val
 rw [ht1] at hva'
 obtain ⟨hT,ht⟩:=Dk.of_rv hva' ht2
 exact ⟨p8,c8,WN key r,rfl,ha8.own,rfl,hva.gone.trans hvT.gone,hT,⟨v,hvm,by rw [ht1];exact ht⟩,hx07.trans hx8⟩
theorem Na (a:Int) (p:Option Addr) (n c:Nat) (w:World):(Instr.build 123 [(0,Value.int .i64 a),(1,Value.slice p n c)].toArray).run Tryz.prog w=.ok (.agg #[.int .i64 a,.slice p n c]) w:=by kernel_rfl
variable {so : Nat}
set_option maxRecDepth 20000 in
theorem FI (hK:BX g w k lg d 80 nn used last (.pointer (some (adr (bx so) 0))) ds) (hso:Bk g w 6 so 164 (slC d 0)) (hS:Cf g w st ix key vs last mark) (hv:∃v,Gd vs last clock v) (hk:key.size≤256) (ht:∀y∈vs,y.val.text.size≤2000) (hfit:80≤ds.length) :
  Ctr Tryz.prog 29 [.pointer (some (adr (bx k) 0)),.pointer (some (adr (bx st) 0)),.int .i64 clock] w (fun v w'=>v=.int .i64 0∧∃g' ds',Stq ix [1,2,6] g g' w w'∧BX g' w' k lg d 80 nn 0 last (.pointer (some (adr (bx so) 0))) ds'∧ds'.length=ds.length):=by
 have hkb:=hK.box.blk
 obtain ⟨⟨F,hF,_⟩,_⟩:=id hS
 have hlast:=hF.fit
 have hx1:Ext w w.drew:=Ext.drew Ext.rfl'
 have hkb1:=hkb.ext hx1
 refine Ac Tryz.func29 Tryz.ntmps29 rfl rfl rfl ?_
 repeat' (first|refine R1 ?_|(refine Q1 ?_;first|(refine Q15 Tryz.underlying49 (t:=49) ?_)|(refine Q4 (f:=15) (hc:=GJ hF) ?_;rintro _ _ ⟨rfl,rfl⟩;refine Kc ?_)|(refine Q4 (f:=46) (hc:=PV hK.log) ?_;rintro _ _ ⟨rfl,rfl⟩;refine Kc ?_)|(refine Q2 (hu:=by (first|exact T.f117_0|exact T.f117_1)) ?_)|(refine Q3 (hu:=by (first|exact T.p114|exact T.p115)) ?_)|(refine Q31 (hu:=by (first|exact T.p114|exact T.p115)) ?_)|(refine Q44 (hu:=by (first|exact T.p114|exact T.p115)) ?_)|(refine Q9 (hu:=by (first|exact T.p114|exact T.p115)) ?_))|refine R2 ?_|(apply Za;exact rfl;all_goals (intro h;try (exfalso;omega)))|(apply Zy;exact rfl;all_goals intro h)|((fail_if_success (refine Q1 ?_));apply Zb;exact rfl;exact rfl;all_goals (intro h;try (exfalso;omega)))|((fail_if_success (refine Q1 ?_));apply ZW;exact rfl;exact rfl;all_goals intro h)|fail)
 all_goals try (exfalso;simp only at *;omega)
 refine Zl 2 [] (.node [0,1,2,4,5,6] (.alt 3 (.leaf [7,8,9,10,11]) (.alt 7 (.node [] (.alt 3 (.leaf [8,9,10,11]) (.alt 8 (.leaf [3,9,10,11]) .stop))) .stop))) mixed (by decide +kernel) ?_
 have hF1:=hF.ext hx1
 repeat' (first|refine R1 ?_|(refine Q1 ?_;first|(refine Q4 (f:=49) (hc:=NV hF1 hv) ?_;rintro _ w2 ⟨p2,c2,x2,rfl,hO2,x2k,x2g,x2t,hx2v,hx2⟩;refine Kc ?_;replace hkb1:=hkb1.ext (Kx hx2))|(refine Q2 (hu:=by (first|exact T.f117_0|exact T.f117_1)) ?_)|(refine Q3 (hu:=by (first|exact T.p114|exact T.p115)) ?_)|(refine Q31 (hu:=by (first|exact T.p114|exact T.p115)) ?_)|(refine Q44 (hu:=by (first|exact T.p114|exact T.p115)) ?_)|(refine Q9 (hu:=by (first|exact T.p114|exact T.p115)) ?_))|(refine Zj ?_)|(refine Zp ?_)|(apply Zv)|refine R2 ?_|(exact Zq)|(apply Za;exact rfl;all_goals (intro h;try (exfalso;omega)))|(apply Zy;exact rfl;all_goals intro h)|((fail_if_success (refine Q1 ?_));apply Zb;exact rfl;exact rfl;all_goals (intro h;try (exfalso;omega)))|((fail_if_success (refine Q1 ?_));apply ZW;exact rfl;exact rfl;all_goals intro h)|fail)
 all_goals
  have hx12:Ext w w2:=hx1.trans hx2
  have hsz2:x2.val.text.size≤2000:=by
   obtain ⟨y,hy,e⟩:=hx2v
   rw [e];exact ht y hy
  refine Q1 ?_;refine Q4 (hc:=RP hO2.sl (by simp) (fun z hz=>by simp only [List.mem_singleton] at hz;subst hz;exact ⟨by rw [x2k];omega,fun _=>x2t⟩)) ?_;rintro _ w3 ⟨p3,c3,bs3,rfl,ho3,hx3,hl3⟩;refine Kc ?_
  have hx03:=hx12.trans hx3
  have hlen3:bs3.length=22+key.size+x2.val.text.size:=by
   rw [hl3]
   simp only [List.map_cons,List.map_nil,List.sum_cons,List.sum_nil]
   unfold Cu
   rw [x2k,x2g]
   simp only [Bool.false_eq_true,if_false]
   omega
  have hS3:Stq ix [1] g (rt g w 0) w w3:=Stq.of_ext hx03 0
  have hK3:=hK.ext hx03 0
  have hso3:=hso.ext hx03 0
  have hkb3:=hK3.box.blk
  have ho3':Go.V.Own w3 w.heap.size 5 Ai p3 c3 bs3:=ho3.base hx12.size
  repeat' (first|refine R1 ?_|(refine Q1 ?_;first|(apply Zi;exact rfl;exact Na _ _ _ _;exact rfl)|(refine Q2 (hu:=by (first|exact T.f117_0|exact T.f117_1)) ?_)|(refine Q3 (hu:=by (first|exact T.p114|exact T.p115)) ?_)|(refine Q31 (hu:=by (first|exact T.p114|exact T.p115)) ?_)|(refine Q44 (hu:=by (first|exact T.p114|exact T.p115)) ?_)|(refine Q9 (hu:=by (first|exact T.p114|exact T.p115)) ?_))|(refine Zj ?_)|(refine Zp ?_)|(apply Zv)|refine R2 ?_|(exact Zq)|(apply Za;exact rfl;all_goals (intro h;try (exfalso;omega)))|(apply Zy;exact rfl;all_goals intro h)|((fail_if_success (refine Q1 ?_));apply Zb;exact rfl;exact rfl;all_goals (intro h;try (exfalso;omega)))|((fail_if_success (refine Q1 ?_));apply ZW;exact rfl;exact rfl;all_goals intro h)|fail)
  all_goals
   refine Q1 ?_;refine Q4 (hc:=NS (ix:=ix) hK3.disk hso3 (SlJ.own ho3') (by omega) (by omega) hK3.big hfit (by omega)) ?_;rintro _ w5 ⟨rfl,g4,ds4,w4,hS4,hD4,hl4,hg5,hA5⟩;refine Kc ?_
   have hso4:=hso3.stp hS4 (by decide)
   have hbx4:=hK3.box.stp hS4 (by decide)
   have hL4:=hK3.log.stp hS4 (by decide)
   have hS5:Stq ix [6] g4 (rt g4 w4 0) w4 w5:=hso4.stpG hg5 0 (by simp)
   have hbx5:=hbx4.grown (u:=0) hg5 (hso4.neT hbx4 (by decide))
   have hL5:=hL4.stp hS5 (by decide)
   have hD5:=hD4.stp hS5 (by decide)
   have hb5:=hbx5.blk
   repeat' (first|refine R1 ?_|(refine Q1 ?_;first|(refine Q2 (hu:=by (first|exact T.f117_0|exact T.f117_1)) ?_)|(refine Q3 (hu:=by (first|exact T.p114|exact T.p115)) ?_)|(refine Q31 (hu:=by (first|exact T.p114|exact T.p115)) ?_)|(refine Q44 (hu:=by (first|exact T.p114|exact T.p115)) ?_)|(refine Q9 (hu:=by (first|exact T.p114|exact T.p115)) ?_))|(refine Zj ?_)|(refine Zp ?_)|(apply Zv)|refine R2 ?_|(exact Zq)|(apply Za;exact rfl;all_goals (intro h;try (exfalso;omega)))|(apply Zy;exact rfl;all_goals intro h)|((fail_if_success (refine Q1 ?_));apply Zb;exact rfl;exact rfl;all_goals (intro h;try (exfalso;omega)))|((fail_if_success (refine Q1 ?_));apply ZW;exact rfl;exact rfl;all_goals intro h)|fail)
   all_goals try (exfalso;simp only at *;omega)
   refine Q1 ?_;refine Q4 (hc:=OV hL5 (by omega)) ?_;rintro _ w6 ⟨rfl,hg6,hA6⟩;refine Kc ?_
   have hS6:Stq ix [2] _ (rt (rt g4 w4 0) w5 0) w5 w6:=hL5.stpG hg6 0 (by simp)
   repeat' (first|refine R1 ?_|(refine Q1 ?_;first|(refine Q2 (hu:=by (first|exact T.f117_0|exact T.f117_1)) ?_)|(refine Q3 (hu:=by (first|exact T.p114|exact T.p115)) ?_)|(refine Q31 (hu:=by (first|exact T.p114|exact T.p115)) ?_)|(refine Q44 (hu:=by (first|exact T.p114|exact T.p115)) ?_)|(refine Q9 (hu:=by (first|exact T.p114|exact T.p115)) ?_))|refine R2 ?_|(apply Za;exact rfl;all_goals (intro h;try (exfalso;omega)))|(apply Zy;exact rfl;all_goals intro h)|((fail_if_success (refine Q1 ?_));apply Zb;exact rfl;exact rfl;all_goals (intro h;try (exfalso;omega)))|((fail_if_success (refine Q1 ?_));apply ZW;exact rfl;exact rfl;all_goals intro h)|fail)
   refine Kr Tryz.results29 ?_
   exact ⟨rfl,_,ds4,(((hS3.trans hS4).mono (by simp)).trans (hS5.mono (by simp))).trans (hS6.mono (by simp)),⟨hbx5.stp hS6 (by decide),hL5.turned hA6,hD5.stp hS6 (by decide),by rw [hl4];exact hK.big,by rw [hl4];exact hK.fit⟩,hl4⟩
end Go.Proofs.YtkcolpfanmdmiaaGreatDoor
