/- Texts of this proof laid together. -/
import Derived.Test.YtkcolpfanmdmiaaGreatDoorVM20
set_option maxHeartbeats 8000000
open Go Go.V Go.Proofs.YtkcolpfanmdmiaaGreatDoor
variable {key num s : ByteArray} {x : Cn} {clk log slot : Int} {cs : List Cn} {lasts : List Int} {ds : List Sec} {ts : List TG} {vs : List Ver} {b d dk dq each hb i ix j k kp last lg m mark n nn sb st used : Nat} {g : Nat → Nat} {q : Option Addr} {W0 w : World}
namespace Go.Proofs.YtkcolpfanmdmiaaGreatDoor
open Go.V Go.RowKit Go.Conc
attribute [local irreducible] PlainT
structure Db (g:Nat→Nat) (w:World) (ix st k m lg d:Nat) (key:ByteArray) (vs:List Ver) (last mark:Nat) (clk:Int) (ts:List TG) (nn used:Nat):Prop where
 mgr:AL g w m st k clk ts
 sto:Cf g w st ix key vs last mark
 kep:∃sg sv ds,BX g w k lg d sg nn used last sv ds
theorem Db.stp {ix:Nat} {T:List Nat} {g g':Nat→Nat} {w w':World} {st k m lg d:Nat} {key:ByteArray} {vs:List Ver} {last mark:Nat} {clk:Int} {ts:List TG} {nn used:Nat} (h:Db g w ix st k m lg d key vs last mark clk ts nn used) (s:Stq ix T g g' w w') (hT:∀t∈T,t=0∨7<t):Db g' w' ix st k m lg d key vs last mark clk ts nn used:=by
 obtain ⟨sg,sv,ds,h3⟩:=h.kep
 have n:∀t,0<t→t≤7→t ∉ T:=fun t h1 h2 e=>by have:=hT t e;omega
 exact ⟨h.mgr.stp s (n 4 (by omega) (by omega)) (n 5 (by omega) (by omega)),h.sto.stp s (n 3 (by omega) (by omega)),sg,sv,ds,h3.stp s (n 1 (by omega) (by omega)) (n 2 (by omega) (by omega)) (n 6 (by omega) (by omega))⟩
theorem Ty (m k c:Nat) (w:World):(Instr.build 82 [(0,Value.pointer (some (adr (bx m) 0))),(1,Value.pointer (some (adr (bx k) 0))),(3,Value.chan (some c))].toArray).run Tryz.prog w=.ok (.agg #[.pointer (some (adr (bx m) 0)),.pointer (some (adr (bx k) 0)),.int .i64 0,.chan (some c)]) w:=by kernel_rfl
theorem Ud:Tryz.prog.info? 75=some (Tryz.prog.types[75]!):=by kernel_rfl
def Gq (g:Nat→Nat) (w:World) (st k lg sl:Nat) (j:Nat):Nat:=if j<w.heap.size then g j else if j=st then 3 else if j=k then 6 else if j=lg then 2 else if j=sl then 6 else 0
theorem Stq.of_gOpen {ix:Nat} {T:List Nat} {g:Nat→Nat} {w w':World} (h:Ext w w') (st k lg sl:Nat):Stq ix T g (Gq g w st k lg sl) w w':=⟨h.os,h.tape,h.output,h.size,fun k hk _ _=>h.block k hk,fun j hj=>by unfold Gq;rw [if_pos hj]⟩
set_option maxRecDepth 20000 in
theorem SH (hV:Bk g w 8 sb 72 [.int .i64 (each:Int),.int .i64 (nn:Int),.pointer (some (adr (bx dk) 0)),.int .i64 0,.slice none 0 0,.slice none 0 0,.pointer none]) (hD:AZ g w dk ds []) (h0:∀x∈ds,x=Cw) (he:1≤each) (hn:1≤nn) (hf:2 * each+nn≤ds.length) (hds:ds.length≤65536) :
  Ctr Tryz.prog 33 [.pointer (some (adr (bx sb) 0))] w (fun _ w'=>∃g' m k lg st ix,w.heap.size≤ix∧Stq ix [8] g g' w w'∧Srv g' w' sb m k dk each nn 0 [0] [] 0∧Db g' w' ix st k m lg dk key [] 0 0 0 [] nn 0):=by
 have b1:=hV.blk
 refine Ac Tryz.func33 Tryz.ntmps33 rfl rfl rfl ?_
 repeat' (first|refine R1 ?_|(refine Q1 ?_;(refine Q2 (hu:=T.f72_5) ?_))|refine R2 ?_|fail)
 refine Q1 ?_;refine Q5 T.z70 b1 ?_;intro w1 hb1 hg1 hs1
 replace hb1:Blk w1.heap sb 72 [.int .i64 (each:Int),.int .i64 (nn:Int),.pointer (some (adr (bx dk) 0)),.int .i64 0,.slice none 0 0,.slice none 0 0,.pointer none]:=hb1
 have hS1:=hV.stpG (T:=[8]) (ix:=0) hg1 0 (by simp)
 have hV1:=hV.turned (u:=0) hb1
 have hD1:=hD.stp hS1 (by decide)
 repeat' (first|refine R1 ?_|(refine Q1 ?_;first|(refine Q2 (hu:=T.f72_3) ?_)|(refine Q3 (hu:=T.p41) ?_))|refine R2 ?_|fail)
 refine Q1 ?_
 refine Q12 He (-1) T.s41 ?_
 intro p2 w2 hp2 hs2 hb2 hx2 hz2
 have hV2:=hV1.ext hx2 0
 have hrow2:Rw (rt (rt g w 0) w1 0) w2 8 3 He none 0 []:=Rw.nil (by unfold ixT;decide)
 repeat' (refine Q1 ?_;first|refine Q21 ?_|(refine Q16 T.s41 hrow2.own hs2 (xs:=([]:List Int)) (e:=He) (hB:=Nat.zero_le _) (hlen:=by (simp)) (hmax:=by (simp)) ?_;intro p3 c3 w3 ha3)|(refine Q2 (hu:=T.f72_3) ?_))
 have hS3:=hrow2.appS (T:=[8]) (ix:=0) ha3 (by simp)
 have hrow3:=hrow2.app ha3
 have hV3:=hV2.turn ha3.grown (fun e=>by cases e) 8
 have b3:=hV3.blk
 refine Q1 ?_;refine Q5 T.z41 b3 ?_;intro w4 hb4 hg4 hs4
 replace hb4:Blk w4.heap sb 72 [.int .i64 (each:Int),.int .i64 (nn:Int),.pointer (some (adr (bx dk) 0)),.int .i64 0,.slice p3 1 c3,.slice none 0 0,.pointer none]:=hb4
 have hS4:=hV3.stpG (T:=[8]) (ix:=0) hg4 0 (by simp)
 have hV4:=hV3.turned (u:=0) hb4
 have hrow4:=hrow3.turn hg4 (fun k hk e=>hrow3.neB hV3 (by decide) (by rw [hk];exact e.symm)) 0
 have hD4:=((hD1.ext hx2 0).stp hS3 (by decide)).stp hS4 (by decide)
 have b4:=hV4.blk
 have hdr:Ext w4 w4.drew:=Ext.drew Ext.rfl'
 have hS04:∀ix,Stq ix [8] g (rt (rt (rt (rt g w 0) w1 0) w2 8) w3 0) w w4:=fun ix=>(((hV.stpG (ix:=ix) (T:=[8]) hg1 0 (by simp)).trans (Stq.of_ext hx2 0)).trans (hrow2.appS (ix:=ix) (T:=[8]) ha3 (by simp))).trans (hV3.stpG (ix:=ix) (T:=[8]) hg4 0 (by simp))
 have hV5:=hV4.ext hdr 0
 have hrow5:=hrow4.ext hdr 0
 have hD5:=hD4.ext hdr 0
 have b5:=hV5.blk
 repeat' (first|refine R1 ?_|(refine Q1 ?_;first|(refine Q4 (f:=51) (hc:=RO (key:=key) hD5 h0 he hn hf hds) ?_;rintro _ w6 ⟨k,lg,sl,st,ix,rfl,hk,hlg,hsl,hix,hst,hbk,hbl,hbs,hSt,hx6⟩;refine Kc ?_;replace b5:=b5.ext (Kx hx6))|(refine Q2 (hu:=by (first|exact T.f72_1|exact T.f72_0)) ?_)|(refine Q3 (hu:=T.p68) ?_)|(refine Q34 T.a26 rfl (hb:=by assumption) ?_))|refine R2 ?_|refine Zf 1 [] [0,1,2,3,4,5,6,7,8,9,10,11,12,13,14,15] mixed (by decide +kernel) ?_|fail)
 have s6:∀(ix:Nat) (T:List Nat),Stq ix T _ (Gq (rt (rt (rt (rt (rt g w 0) w1 0) w2 8) w3 0) w4 0) w4.drew st k lg sl) w4.drew w6:=fun ix T=>Stq.of_gOpen hx6 st k lg sl
 have hV6:=hV5.stp (s6 0 []) (by simp)
 have hrow6:=hrow5.stp (s6 0 []) (by simp)
 have hD6:=hD5.stp (s6 0 []) (by simp)
 have n1:=BB hbk hSt.box (by decide)
 have n2:=BB hbl hSt.box (by decide)
 have n3:=BB hbl hbk (by decide)
 have hK6:BX (Gq (rt (rt (rt (rt (rt g w 0) w1 0) w2 8) w3 0) w4 0) w4.drew st k lg sl) w6 k lg dk (2 * each) nn 0 0 (.pointer (some (adr (bx sl) 0))) ds:=by
  refine ⟨⟨hbk,?_,by unfold ixT;decide⟩,⟨hbl,?_,by unfold ixT;decide⟩,hD6,hds,hf⟩
  ·unfold Gq;rw [if_neg (by omega),if_neg n1,if_pos rfl]
  ·unfold Gq;rw [if_neg (by omega),if_neg n2,if_neg n3,if_pos rfl]
 have hT6:Cf (Gq (rt (rt (rt (rt (rt g w 0) w1 0) w2 8) w3 0) w4 0) w4.drew st k lg sl) w6 st ix key [] 0 0:=by
  refine ⟨⟨fun _=>False,hSt,fun k h=>h.elim⟩,?_⟩
  unfold Gq;rw [if_neg (by omega),if_pos rfl]
 generalize Gq (rt (rt (rt (rt (rt g w 0) w1 0) w2 8) w3 0) w4 0) w4.drew st k lg sl=g6 at *
 repeat' (first|refine R1 ?_|(refine Q1 ?_;first|(refine Q61 (hu:=⟨_,Tryz.underlying79,fun ms h=>by cases h⟩) ?_)|(refine Q4 (f:=52) (hc:=We (g:=g6) rfl) ?_;rintro _ w7 ⟨m,rfl,hm,hM7,hx7⟩;refine Kc ?_;replace b5:=b5.ext (Kx hx7))|(refine Q2 (hu:=T.f72_2) ?_)|(refine Q3 (hu:=T.p3) ?_))|refine R2 ?_|fail)
 have hV7:=hV6.ext hx7 4
 have b7:=hV7.blk
 have hrow7:=hrow6.ext hx7 4
 have hK7:=hK6.ext hx7 4
 have hT7:=hT6.ext hx7 4
 have hd7:Ext w7 w7.drew:=Ext.drew Ext.rfl'
 have hV8:=hV7.ext hd7 0
 have b8:=hV8.blk
 have hrow8:=hrow7.ext hd7 0
 have o8:=hrow8.own
 have s8:=hrow8.sl
 have hK8:=hK7.ext hd7 0
 have hT8:=hT7.stp (ix:=ix) (T:=[]) (g':=rt (rt g6 w6 4) w7 0) (Stq.of_ext hd7 0) (by simp)
 have hM8:=hM7.ext hd7 0
 obtain ⟨F8,hF8,-⟩:=hT8.ex
 have hrr:Ext w7.drew w7.drew:=Ext.rfl'
 have hq0:([-1]:List Int)[0]?=some (-1):=rfl
 repeat' (first|refine R1 ?_|(refine Q1 ?_;first|(refine Q4 (f:=37) (hc:=Sd hM7) ?_;rintro _ _ ⟨rfl,rfl⟩;refine Kc ?_)|(refine Q4 (f:=15) (hc:=GJ hF8) ?_;rintro _ _ ⟨rfl,rfl⟩;refine Kc ?_)|(refine Q10 T.s41 s8.ok (q:=0) (h1:=by decide) ?_)|(refine Q2 (hu:=T.f72_3) ?_)|(refine Q3 (hu:=T.p41) ?_)|(refine Q6 (hu:=T.s41) ?_))|refine R2 ?_|refine Zf 1 [] [0,1,2,3,4,5,6,7,8,9,10,11,12,13] mixed (by decide +kernel) ?_|fail)
 (refine Q1 ?_;refine Q42 (0:Int) T.z3 o8 hq0 (off:=0) (q:=0) (hB:=Nat.zero_le _) ?_;intro w9 ha9 hz9)
 have hS9:=hrow8.appS (T:=[8]) (ix:=ix) ha9 (by simp)
 have hrow9:=hrow8.app ha9
 have hV9:=hV8.turn ha9.grown (hrow8.neB hV8 (by decide)) 8
 have hK9:=hK8.stp hS9 (by decide) (by decide) (by decide)
 have hT9:=hT8.stp hS9 (by decide)
 have hM9:=hM8.stp hS9 (by decide) (by decide)
 have b9:=hV9.blk
 repeat' (refine R1 ?_)
 refine Q1 ?_
 refine Q77 Tryz.underlying80 Ud (m:=256) ?_
 intro w10 hch10 hx10 hz10
 repeat' (refine Q1 ?_;(apply Zi;exact rfl;exact Ty _ _ _;exact rfl))
 refine Q1 ?_;refine Q8 ?_;intro a11 w11 ha11 hA11 hx11 hs11
 replace hA11:Blk w11.heap a11 82 [.pointer (some (adr (bx m) 0)),.pointer (some (adr (bx k) 0)),.int .i64 ((0:Nat):Int),.chan (some w9.heap.size)]:=hA11
 have hCh:Cx _ w10 8 w9.heap.size 256 #[]:=⟨⟨0,0,hch10⟩,CU (g:=rt (rt (rt g6 w6 4) w7 0) w7.drew 8) (w:=w9) (t:=8) (Nat.le_refl _)⟩
 have hCh:=hCh.ext hx11 8
 have hLf:Bk (rt (rt (rt (rt (rt g6 w6 4) w7 0) w7.drew 8) w9 8) w10 8) w11 8 a11 82 _:=Bk.new hA11 (by omega) (by unfold ixT;decide)
 have hx911:=hx10.trans hx11
 have hV11:=(hV9.ext hx10 8).ext hx11 8
 have hrow11:=(hrow9.ext hx10 8).ext hx11 8
 have hK11:=(hK9.ext hx10 8).ext hx11 8
 have hM11:=(hM9.ext hx10 8).ext hx11 8
 have hT11:=(hT9.stp (ix:=ix) (T:=[]) (g':=rt (rt (rt (rt g6 w6 4) w7 0) w7.drew 8) w9 8) (Stq.of_ext hx10 8) (by simp)).stp (ix:=ix) (T:=[]) (g':=rt (rt (rt (rt (rt g6 w6 4) w7 0) w7.drew 8) w9 8) w10 8) (Stq.of_ext hx11 8) (by simp)
 have b11:=hV11.blk
 repeat' (refine Q1 ?_;first|refine Q21 ?_|(refine Q2 (hu:=T.f72_5) ?_))
 refine Q1 ?_;refine Q5 T.z70 b11 ?_;intro w12 hb12 hg12 hs12
 replace hb12:Blk w12.heap sb 72 [.int .i64 (each:Int),.int .i64 (nn:Int),.pointer (some (adr (bx dk) 0)),.int .i64 0,.slice p3 1 c3,.slice none 0 0,.pointer (some (adr (bx a11) 0))]:=hb12
 have hS12:Stq ix [8] _ (rt (rt (rt (rt (rt (rt g6 w6 4) w7 0) w7.drew 8) w9 8) w10 8) w11 0) w11 w12:=hV11.stpG hg12 0 (by simp)
 have hrow12:=hrow11.turn hg12 (fun k hk e=>hrow11.neB hV11 (by decide) (by rw [hk];exact e.symm)) 0
 have hLf12:=hLf.turn hg12 (fun e=>hLf.neT hV11 (by decide) (by injection e with e;exact e.symm)) 0
 have hCh12:=hCh.turn hV11 hg12 0
 have hK12:=hK11.stp hS12 (by decide) (by decide) (by decide)
 have hM12:=hM11.stp hS12 (by decide) (by decide)
 have hT12:=hT11.stp hS12 (by decide)
 have hV12:=hV11.turned (u:=0) hb12
 repeat' apply Zu
 refine Zk Tryz.results33 (vs:=[]) rfl ?_
 have z04:=(hS04 0).size
 have zdr:=hdr.size
 refine ⟨_,m,k,lg,st,ix,by omega,?_,⟨a11,w9.heap.size,p3,c3,none,0,#[],hV12,hrow12,Rw.nil (by unfold ixT;decide),hLf12,hCh12,Nat.zero_le _⟩,hM12,hT12,2 * each,.pointer (some (adr (bx sl) 0)),ds,hK12⟩
 exact (((((((((hS04 ix).trans (Stq.of_ext hdr 0)).trans (s6 ix [8])).trans (Stq.of_ext hx7 4)).trans (Stq.of_ext hd7 0)).trans hS9).trans (Stq.of_ext hx10 8)).trans (Stq.of_ext hx11 8)).trans hS12)
theorem Vu (a b:Int) (d:Nat) (w:World):(Instr.build 72 [(0,Value.agg #[.int .i64 a,.int .i64 b]),(1,Value.pointer (some (adr (bx d) 0)))].toArray).run Tryz.prog w=.ok (.agg #[.int .i64 a,.int .i64 b,.pointer (some (adr (bx d) 0)),.int .i64 0,.slice none 0 0,.slice none 0 0,.pointer none]) w:=by kernel_rfl
theorem Rp (a:Int) (w:World):(Instr.build 89 [(0,Value.int .i64 a)].toArray).run Tryz.prog w=.ok (.agg #[.int .i64 a,.slice none 0 0,.slice none 0 0,.bool false]) w:=by kernel_rfl
theorem Tz (s:Nat) (a:Int) (w:World):(Instr.build 91 [(0,Value.pointer (some (adr (bx s) 0))),(1,Value.agg #[.int .i64 a,.slice none 0 0,.slice none 0 0,.bool false])].toArray).run Tryz.prog w=.ok (.agg #[.pointer (some (adr (bx s) 0)),.int .i64 a,.slice none 0 0,.slice none 0 0,.bool false,.bool false,.bool false]) w:=by kernel_rfl
set_option maxRecDepth 20000 in
theorem Wy (hx:Ext W0 w) (he:1≤each) (hn:1≤nn) (hb:2 * each+nn≤65536) :
  Ctr Tryz.prog 17 [.agg #[.int .i64 (each:Int),.int .i64 (nn:Int)]] w (fun v w'=>∃g' sb dk m k lg st ix,v=.tuple #[.pointer (some (adr (bx sb) 0)),.int .i64 0]∧Bs W0 ix g' w'∧w.heap.size≤ix∧Ext w w'∧Srv g' w' sb m k dk each nn 0 [0] [] 0∧Db g' w' ix st k m lg dk key [] 0 0 0 [] nn 0):=by
 obtain ⟨g,hg⟩:∃g:Nat→Nat,g=fun _=>0:=⟨_,rfl⟩
 refine Ac Tryz.func17 Tryz.ntmps17 rfl rfl rfl ?_
 repeat' (refine R1 ?_)
 refine Q1 ?_;refine Q8 ?_;intro a1 w1 ha1 hA1 hx1 hs1
 replace hA1:Blk w1.heap a1 28 [.int .i64 (each:Int),.int .i64 (nn:Int)]:=hA1
 repeat' (first|refine R1 ?_|(refine Q1 ?_;first|(refine Q4 (f:=32) (hc:=TR (n:=2 * each+nn) (g:=rt g w 0) (by omega) hb) ?_;rintro _ w2 ⟨dk,rfl,hD2,hx2⟩;refine Kc ?_;replace hA1:=hA1.ext (Kx hx2))|(refine Q2 (hu:=by (first|exact T.f28_0|exact T.f26_0|exact T.f26_1)) ?_)|(refine Q3 (hu:=T.p3) ?_)|refine Q11 T.a26 ?_)|refine R2 ?_|fail)
 repeat' (refine Q1 ?_;(apply Zi;exact rfl;exact Vu _ _ _;exact rfl))
 refine Q1 ?_;refine Q8 ?_;intro a3 w3 ha3 hA3 hx3 hs3
 replace hA3:Blk w3.heap a3 72 [.int .i64 (each:Int),.int .i64 (nn:Int),.pointer (some (adr (bx dk) 0)),.int .i64 0,.slice none 0 0,.slice none 0 0,.pointer none]:=hA3
 have hV3:Bk (rt (rt (rt g w 0) w1 1) w2 8) w3 8 a3 72 _:=Bk.new hA3 (by omega) (by unfold ixT;decide)
 have hD3:=hD2.ext hx3 8
 have hx03:=(hx1.trans hx2).trans hx3
 repeat' (refine R1 ?_)
 refine Q1 ?_;refine Q4 (hc:=SH (key:=key) hV3 hD3 (fun x hx=>List.eq_of_mem_replicate hx) he hn (by rw [List.length_replicate];omega) (by rw [List.length_replicate];omega)) ?_;rintro _ w4 ⟨g4,m,k,lg,st,ix,hix,hS4,hV4,hDb4⟩;refine Kc ?_
 have hg0:∀j,j<w.heap.size→rt (rt (rt g w 0) w1 1) w2 8 j=0:=fun j hj=>by
  have z1:=hx1.size
  have z2:=hx2.size
  rw [AY (by omega),AY (by omega),AY hj,hg]
 have z3:=hx03.size
 have hE4:Ext w w4:=hS4.toE hx03 hg0 (by omega) (by simp)
 have hB4:Bs W0 ix g4 w4:=⟨hx.trans hE4,fun j hj=>by
  have:=hx.size
  rw [hS4.tags j (by omega)]
  exact hg0 j (by omega),by have:=hx.size;omega⟩
 obtain ⟨lf,tq,lp,lc,cp,cc,bf,k1,k2,k3,k4,k5,k6⟩:=hV4.ex
 have b4:=k1.blk
 repeat' (first|refine R1 ?_|(refine Q1 ?_;first|(refine Q15 Tryz.underlying70 (t:=70) ?_)|(refine Q2 (hu:=T.f72_5) ?_)|(refine Q3 (hu:=T.p70) ?_))|refine R2 ?_|fail)
 all_goals try (exfalso;simp only at *;omega)
 refine Kr Tryz.results17 ?_
 exact ⟨g4,a3,dk,m,k,lg,st,ix,rfl,hB4,by omega,hE4,hV4,hDb4⟩
set_option maxRecDepth 20000 in
theorem Oy (hV:Srv g w sb m kp dk slot log clk lasts cs n) (hcs:cs.length≤7) (hla:1≤lasts.length∧lasts.length≤1000) (hb:8<b) :
  Ctr Tryz.prog 24 [.pointer (some (adr (bx sb) 0))] w (fun _ w'=>∃g' x,x.b=b∧w.heap.size≤x.rd∧Stq ix [8] g g' w w'∧Srv g' w' sb m kp dk slot log clk lasts (cs++[x]) n∧Ct g' w' x n [] false∧AV g' w' x.b x.ss x.cl x.rd x.qc none 0 [] #[]∧Bk g' w' (x.b+4) x.cl 190 [.pointer (some (adr (bx m) 0)),.pointer none]):=by
 obtain ⟨lf,tq,lp,lc,cp,cc,bf,k1,k2,k3,k4,k5,k6⟩:=hV.ex
 have b1:=k1.blk
 have b4:=k4.blk
 have hcl:(cs.map (·.ln)).length=cs.length:=List.length_map _
 refine Ac Tryz.func24 Tryz.ntmps24 rfl rfl rfl ?_
 repeat' (first|refine R1 ?_|(refine Q1 ?_;first|(refine Q2 (hu:=by (first|exact T.f72_5|exact T.f82_2|exact T.f82_0)) ?_)|(refine Q3 (hu:=by (first|exact T.p70|exact T.p3|exact T.p46)) ?_))|refine R2 ?_|(apply Za;exact rfl;all_goals (intro h;try (exfalso;omega)))|fail)
 all_goals try (exfalso;simp only at *;omega)
 refine Q1 ?_;refine Q4 (hc:=Ww (g:=g) (b:=b) (m:=m) (by omega)) ?_;rintro _ w1 ⟨ss,cl,rd,qc,g1,rfl,hrd,hss,hx1,hg1,hSe1,hC1⟩;refine Kc ?_
 have hS1:∀T,Stq ix T g g1 w w1:=fun T=>⟨hx1.os,hx1.tape,hx1.output,hx1.size,fun k hk _ _=>hx1.block k hk,hg1⟩
 have k1:=k1.stp (hS1 []) (by simp)
 have k2:=k2.stp (hS1 []) (by simp)
 have k3:=k3.stp (hS1 []) (by simp)
 have k4:=k4.stp (hS1 []) (by simp)
 have k5:=k5.stp (hS1 []) (by simp)
 have b1:=k1.blk
 have b4:=k4.blk
 repeat' (first|refine R1 ?_|(refine Q1 ?_;first|(refine Q2 (hu:=by (first|exact T.f72_5|exact T.f82_2)) ?_)|(refine Q3 (hu:=by (first|exact T.p70|exact T.p3)) ?_))|refine R2 ?_|fail)
 refine Q1 ?_;refine Q5 T.z3 b4 ?_;intro w2 hb2 hg2 hs2
 replace hb2:Blk w2.heap lf 82 [.pointer (some (adr (bx m) 0)),.pointer (some (adr (bx kp) 0)),.int .i64 ((cs.length:Int)+1),.chan (some tq)]:=hb2
 have hS2:=k4.stpG (T:=[8]) (ix:=ix) hg2 0 (by simp)
 have k1:=k1.turn hg2 (fun e=>k4.neT k1 (by decide) (by injection e)) 0
 have k2:=k2.turn hg2 (fun k hk e=>k2.neB k4 (by decide) (by rw [hk];exact e.symm)) 0
 have k3:=k3.turn hg2 (fun k hk e=>k3.neB k4 (by decide) (by rw [hk];exact e.symm)) 0
 have k5:=k5.turn k4 hg2 0
 have k4:=k4.turned (u:=0) hb2
 have hSe2:=hSe1.stp hS2 (by simp;omega) (by simp;omega)
 have hC2:=hC1.stp hS2 (by simp;omega)
 have hd:Ext w2 w2.drew:=Ext.drew Ext.rfl'
 have k1:=k1.ext hd 0
 have k2:=k2.ext hd 0
 have k3:=k3.ext hd 0
 have k4:=k4.ext hd 0
 have k5:=k5.ext hd 0
 have hSe2:=hSe2.ext hd 0
 have hC2:=hC2.ext hd 0
 have b1:=k1.blk
 repeat' (refine R1 ?_)
 refine Zl 1 [] (.node [0,1,2,3,4,5,6,7,8] (.alt 9 (.node [] (.alt 10 (.leaf [11,12,13,14,15,16,17,18,19]) .stop)) .stop)) mixed (by decide +kernel) ?_
 repeat' (first|refine R1 ?_|(refine Q1 ?_;first|(apply Zi;exact rfl;exact Rp _;exact rfl)|(apply Zi;exact rfl;exact Tz _ _;exact rfl)|(refine Q2 (hu:=by (first|exact T.f72_4|exact T.f72_3)) ?_)|(refine Q3 (hu:=by (first|exact T.p69|exact T.p41)) ?_)|(refine Q6 (hu:=T.s41) ?_))|(refine Zj ?_)|(refine Zp ?_)|(apply Zv)|refine R2 ?_|(exact Zq)|fail)
 refine Q1 ?_;refine Q8 ?_;intro a5 w5 ha5 hA5 hx5 hs5
 replace hA5:Blk w5.heap a5 91 [.pointer (some (adr (bx ss) 0)),.int .i64 ((lasts.length:Int) - 1),.slice none 0 0,.slice none 0 0,.bool false,.bool false,.bool false]:=hA5
 skip
 refine Q1 ?_
 refine Q12 ePt a5 T.s69 ?_
 intro p6 w6 hp6 hs6 hb6 hx6 hz6
 have hl5:Bk (rt (rt (rt g1 w1 0) w2 0) w2.drew (b+1)) w5 (b+1) a5 91 _:=Bk.new hA5 (by omega) (by unfold ixT;decide)
 have hl6:=hl5.ext hx6 0
 have k1:=(k1.ext hx5 (b+1)).ext hx6 0
 have k2:=(k2.ext hx5 (b+1)).ext hx6 0
 have k3:=(k3.ext hx5 (b+1)).ext hx6 0
 have k4:=(k4.ext hx5 (b+1)).ext hx6 0
 have k5:=(k5.ext hx5 (b+1)).ext hx6 0
 have hSe6:=(hSe2.ext hx5 (b+1)).ext hx6 0
 have hC6:=(hC2.ext hx5 (b+1)).ext hx6 0
 have b1:=k1.blk
 have o3:=k3.own
 repeat' (refine Q1 ?_;first|refine Q21 ?_|(refine Q16 T.s69 o3 hs6 (hB:=Nat.zero_le _) ?_;intro p7 c7 w7 ha7)|(refine Q2 (hu:=T.f72_4) ?_))
 have hS7:=k3.appS (T:=[8]) (ix:=ix) ha7 (by simp)
 have r7:=k3.app ha7
 have k1:=k1.turn ha7.grown (k3.neB k1 (by decide)) 8
 have k2:=k2.turn ha7.grown (fun k hk e=>k2.neT k3 (by decide) k e hk) 8
 have k4:=k4.turn ha7.grown (k3.neB k4 (by decide)) 8
 have k5:=k5.turnR k3 ha7.grown 8
 have hSe7:=hSe6.stp hS7 (by simp;omega) (by simp;omega)
 have hC7:=hC6.stp hS7 (by simp;omega)
 have hl7:=hl6.stp hS7 (by simp;omega)
 have b1:=k1.blk
 skip
 refine Q1 ?_;refine Q5 T.z69 b1 ?_;intro w8 hb8 hg8 hs8
 replace hb8:Blk w8.heap sb 72 [.int .i64 slot,.int .i64 log,.pointer (some (adr (bx dk) 0)),.int .i64 clk,.slice lp lasts.length lc,.slice p7 (cs.map (·.ln)++[a5]).length c7,.pointer (some (adr (bx lf) 0))]:=hb8
 have hS8:=k1.stpG (T:=[8]) (ix:=ix) hg8 0 (by simp)
 have k2:=k2.turn hg8 (fun k hk e=>k2.neB k1 (by decide) (by rw [hk];exact e.symm)) 0
 have r7:=r7.turn hg8 (fun k hk e=>r7.neB k1 (by decide) (by rw [hk];exact e.symm)) 0
 have k4:=k4.turn hg8 (fun e=>k4.neT k1 (by decide) (by injection e with e;exact e.symm)) 0
 have k5:=k5.turn k1 hg8 0
 have hSe8:=hSe7.stp hS8 (by simp;omega) (by simp;omega)
 have hC8:=hC7.stp hS8 (by simp;omega)
 have hl8:=hl7.stp hS8 (by simp;omega)
 have k1:=k1.turned (u:=0) hb8
 repeat' apply Zu
 refine Zk Tryz.results24 (vs:=[]) rfl ?_
 have hX:=((((((hS1 [8]).trans hS2).trans (Stq.of_ext hd 0)).trans (Stq.of_ext hx5 (b+1))).trans (Stq.of_ext hx6 0)).trans hS7).trans hS8
 refine ⟨_,⟨b,ss,cl,rd,qc,a5⟩,rfl,hrd,hX,⟨lf,tq,lp,lc,p7,c7,bf,by rw [List.map_append];exact k1,k2,by rw [List.map_append];exact r7,by rw [List.length_append];exact k4,k5,k6⟩,⟨_,none,0,[],none,0,hl8,Rw.nil (by unfold ixT;decide),Rw.nil (by unfold ixT;decide),Nat.zero_le _,Nat.zero_le _⟩,hSe8,hC8⟩
variable {dc : Nat} {dp : Option Addr}
set_option maxRecDepth 20000 in
theorem UL {j:Nat} (hV:Srv g w sb m kp dk slot log clk lasts cs n) (hM:AL g w m st k clk ts) (hc0:0≤clk) (hj:clk+j≤1099511627776) :
  Ctr Tryz.prog 21 [.pointer (some (adr (bx sb) 0)),.int .i64 (j:Int)] w (fun _ w'=>∃g',Stq ix [4,8] g g' w w'∧Srv g' w' sb m kp dk slot log (clk+j) lasts cs n∧AL g' w' m st k (clk+j) ts):=by
 obtain ⟨lf,tq,lp,lc,cp,cc,bf,k1,k2,k3,k4,k5,k6⟩:=hV.ex
 have b1:=k1.blk
 have hmin:min (clk+j) 1099511627776=clk+j:=by omega
 refine Ac Tryz.func21 Tryz.ntmps21 rfl rfl rfl ?_
 repeat' (first|refine R1 ?_|(refine Q1 ?_;first|(refine Q2 (hu:=T.f72_2) ?_)|(refine Q3 (hu:=T.p3) ?_))|refine R2 ?_|(apply Za;exact rfl;all_goals (intro h;try (exfalso;omega)))|fail)
 all_goals try (exfalso;simp only at *;omega)
 refine Q1 ?_;refine Q5 T.z3 b1 ?_;intro w1 hb1 hg1 hs1
 replace hb1:Blk w1.heap sb 72 [.int .i64 slot,.int .i64 log,.pointer (some (adr (bx dk) 0)),.int .i64 (min (clk+j) 1099511627776),.slice lp lasts.length lc,.slice cp (cs.map (·.ln)).length cc,.pointer (some (adr (bx lf) 0))]:=hb1
 rw [hmin] at hb1
 have hS1:=k1.stpG (T:=[8]) (ix:=ix) hg1 0 (by simp)
 have k2:=k2.turn hg1 (fun k hk e=>k2.neB k1 (by decide) (by rw [hk];exact e.symm)) 0
 have k3:=k3.turn hg1 (fun k hk e=>k3.neB k1 (by decide) (by rw [hk];exact e.symm)) 0
 have k4:=k4.turn hg1 (fun e=>k4.neT k1 (by decide) (by injection e with e;exact e.symm)) 0
 have k5:=k5.turn k1 hg1 0
 have k1:=k1.turned (u:=0) hb1
 have hM1:=hM.stp hS1 (by decide) (by decide)
 have b1:=k1.blk
 have b4:=k4.blk
 repeat' (first|refine R1 ?_|(refine Q1 ?_;first|(refine Q49 Tryz.underlying70 (t:=70) ?_)|(refine Q2 (hu:=by (first|exact T.f72_5|exact T.f82_0)) ?_)|(refine Q3 (hu:=by (first|exact T.p70|exact T.p46)) ?_))|refine R2 ?_|fail)
 all_goals try (exfalso;simp only at *;omega)
 refine Q1 ?_;refine Q4 (hc:=Uu (ix:=ix) hM1 hc0 hj) ?_;rintro _ w2 ⟨rfl,g2,hS2,hM2⟩;refine Kc ?_
 repeat' apply Zu
 refine Zk Tryz.results21 (vs:=[]) rfl ?_
 exact ⟨g2,(hS1.mono (by simp)).trans (hS2.mono (by simp)),⟨lf,tq,lp,lc,cp,cc,bf,k1.stp hS2 (by decide),k2.stp hS2 (by decide),k3.stp hS2 (by decide),k4.stp hS2 (by decide),k5.stp hS2 (by decide),k6⟩,hM2⟩
set_option maxRecDepth 20000 in
theorem VI {j:Nat} (hV:Srv g w sb m kp dk slot log clk lasts cs n) (hM:AL g w m st k clk ts) (hc0:0≤clk) (hj:clk+j≤1099511627776) (hD:Sl w.heap Cr dp dc [⟨5,0,j,none,0,0⟩]) :
  Ctr Tryz.prog 12 [.pointer (some (adr (bx sb) 0)),.slice dp 1 dc] w (fun _ w'=>∃g',Stq ix [4,8] g g' w w'∧Srv g' w' sb m kp dk slot log (clk+j) lasts cs n∧AL g' w' m st k (clk+j) ts):=by
 obtain ⟨lf,tq,lp,lc,cp,cc,bf,k1,k2,k3,k4,k5,k6⟩:=hV.ex
 have bb1:=k1.blk
 refine Ac Tryz.func12 Tryz.ntmps12 rfl rfl rfl ?_
 repeat' (first|refine R1 ?_|(refine Q1 ?_;first|(refine Q15 Tryz.underlying37 (t:=37) ?_)|(refine Q15 Tryz.underlying68 (t:=68) ?_)|(refine Q2 (hu:=T.f72_1) ?_)|(refine Q3 (hu:=T.p68) ?_)|(refine Q6 (hu:=T.s67) ?_))|apply ZF|apply ZK|refine R2 ?_|fail)
 all_goals try (exfalso;simp only at *;omega)
 refine Zm ?_
 repeat' (first|(refine Q1 ?_;first|(refine Q10 T.s67 hD.ok (q:=0) (h1:=by (simp)) ?_)|(refine Q14 T.a43 (q:=0) (e:=Cr) (hs:=hD) (hq:=rfl) ?_))|refine R1 ?_|refine R2 ?_|fail)
 all_goals try (exfalso;simp only at *;omega)
 refine Q1 ?_;refine Q7 T.zero43 ?_;intro a7 w1 ha7 hA7 hx1 hs1
 have bb2:=bb1.ext hx1
 skip
 refine Q1 ?_;refine Q5 T.z43 hA7 ?_;intro w2 hA7 hg2 hs2
 have hx2:Ext w w2:=hx1.own hg2 (fun k hk=>by injection hk;omega)
 replace bb2:=bb1.ext hx2
 have hV2:=hV.ext hx2 0
 replace hA7:Blk w2.heap a7 43 [.int .i64 5,.int .i64 0,.int .i64 (j:Int),.slice none 0 0,.slice none 0 0]:=hA7
 have hM2:=hM.ext hx2 0
 repeat' (first|refine R1 ?_|(refine Q1 ?_;first|(refine Q2 (hu:=by (first|exact T.f43_0|exact T.f43_2)) ?_)|(refine Q3 (hu:=T.p3) ?_))|refine R2 ?_|fail)
 all_goals try (exfalso;simp only at *;omega)
 refine Q1 ?_;refine Q4 (hc:=UL (ix:=ix) hV2 hM2 hc0 hj) ?_;rintro _ w4 ⟨g4,hS4,hV4,hM4⟩;refine Kc ?_
 repeat' (first|refine R1 ?_|refine R2 ?_|fail)
 refine Zg ?_
 repeat' (first|refine R1 ?_|apply Zo|refine R2 ?_|fail)
 all_goals try (exfalso;simp only at *;omega)
 refine Kr Tryz.results12 ?_
 exact ⟨g4,(Stq.of_ext hx2 0).trans hS4,hV4,hM4⟩
set_option maxRecDepth 20000 in
theorem Pg (hV:Srv g w sb m kp dk slot log clk lasts cs n) (hcs:cs.length≤7) (hla:1≤lasts.length∧lasts.length≤1000) (hb:8<b) (hD:Sl w.heap Cr dp dc [⟨0,0,0,none,0,0⟩]) :
  Ctr Tryz.prog 12 [.pointer (some (adr (bx sb) 0)),.slice dp 1 dc] w (fun _ w'=>∃g' x,x.b=b∧w.heap.size≤x.rd∧Stq ix [8] g g' w w'∧Srv g' w' sb m kp dk slot log clk lasts (cs++[x]) n∧Ct g' w' x n [] false∧AV g' w' x.b x.ss x.cl x.rd x.qc none 0 [] #[]∧Bk g' w' (x.b+4) x.cl 190 [.pointer (some (adr (bx m) 0)),.pointer none]):=by
 obtain ⟨lf,tq,lp,lc,cp,cc,bf,k1,k2,k3,k4,k5,k6⟩:=hV.ex
 have bb1:=k1.blk
 refine Ac Tryz.func12 Tryz.ntmps12 rfl rfl rfl ?_
 repeat' (first|refine R1 ?_|(refine Q1 ?_;first|(refine Q15 Tryz.underlying37 (t:=37) ?_)|(refine Q15 Tryz.underlying68 (t:=68) ?_)|(refine Q2 (hu:=T.f72_1) ?_)|(refine Q3 (hu:=T.p68) ?_)|(refine Q6 (hu:=T.s67) ?_))|apply ZF|apply ZK|refine R2 ?_|fail)
 all_goals try (exfalso;simp only at *;omega)
 refine Zm ?_
 repeat' (first|(refine Q1 ?_;first|(refine Q10 T.s67 hD.ok (q:=0) (h1:=by (simp)) ?_)|(refine Q14 T.a43 (q:=0) (e:=Cr) (hs:=hD) (hq:=rfl) ?_))|refine R1 ?_|refine R2 ?_|fail)
 all_goals try (exfalso;simp only at *;omega)
 refine Q1 ?_;refine Q7 T.zero43 ?_;intro a7 w1 ha7 hA7 hx1 hs1
 have bb2:=bb1.ext hx1
 skip
 refine Q1 ?_;refine Q5 T.z43 hA7 ?_;intro w2 hA7 hg2 hs2
 have hx2:Ext w w2:=hx1.own hg2 (fun k hk=>by injection hk;omega)
 replace bb2:=bb1.ext hx2
 have hV2:=hV.ext hx2 0
 replace hA7:Blk w2.heap a7 43 [.int .i64 0,.int .i64 0,.int .i64 0,.slice none 0 0,.slice none 0 0]:=hA7
 repeat' (first|refine R1 ?_|(refine Q1 ?_;first|(refine Q15 Tryz.underlying70 (t:=70) ?_)|(refine Q2 (hu:=by (first|exact T.f43_0|exact T.f72_5)) ?_)|(refine Q3 (hu:=by (first|exact T.p3|exact T.p70)) ?_))|refine R2 ?_|fail)
 all_goals try (exfalso;simp only at *;omega)
 refine Q1 ?_;refine Q4 (hc:=Oy (ix:=ix) hV2 hcs hla hb) ?_;rintro _ w4 ⟨g4,x,hxb,hrd,hS4,hV4,hL4,hSe4,hC4⟩;refine Kc ?_
 repeat' (first|refine R1 ?_|refine R2 ?_|fail)
 refine Zg ?_
 repeat' (first|refine R1 ?_|apply Zo|refine R2 ?_|fail)
 all_goals try (exfalso;simp only at *;omega)
 refine Kr Tryz.results12 ?_
 exact ⟨g4,x,hxb,Nat.le_trans hx2.size hrd,(Stq.of_ext hx2 0).trans hS4,hV4,hL4,hSe4,hC4⟩
set_option maxRecDepth 20000 in
theorem JO (hV:Srv g w sb m kp dk slot log clk lasts cs n) (hM:AL g w m st k clk ts) (hS:Cf g w st ix key vs last mark) (hb:∀a∈ts,(mark:Int)≤a.start) (hml0:mark≤last) (hD:Sl w.heap Cr dp dc [⟨6,0,0,none,0,0⟩]) :
  Ctr Tryz.prog 12 [.pointer (some (adr (bx sb) 0)),.slice dp 1 dc] w (fun _ w'=>∃g',∃(mk j:Nat),Stq ix [3] g g' w w'∧AL g' w' m st k clk ts∧(mk:Int)=Kj ts last∧FQ vs (mk:Int) (MM ts clk) j∧Cf g' w' st ix key (vs.drop j) last mk):=by
 obtain ⟨lf,tq,lp,lc,cp,cc,bf,k1,k2,k3,k4,k5,k6⟩:=hV.ex
 have bb1:=k1.blk
 refine Ac Tryz.func12 Tryz.ntmps12 rfl rfl rfl ?_
 repeat' (first|refine R1 ?_|(refine Q1 ?_;first|(refine Q15 Tryz.underlying37 (t:=37) ?_)|(refine Q15 Tryz.underlying68 (t:=68) ?_)|(refine Q2 (hu:=T.f72_1) ?_)|(refine Q3 (hu:=T.p68) ?_)|(refine Q6 (hu:=T.s67) ?_))|apply ZF|apply ZK|refine R2 ?_|fail)
 all_goals try (exfalso;simp only at *;omega)
 refine Zm ?_
 repeat' (first|(refine Q1 ?_;first|(refine Q10 T.s67 hD.ok (q:=0) (h1:=by (simp)) ?_)|(refine Q14 T.a43 (q:=0) (e:=Cr) (hs:=hD) (hq:=rfl) ?_))|refine R1 ?_|refine R2 ?_|fail)
 all_goals try (exfalso;simp only at *;omega)
 refine Q1 ?_;refine Q7 T.zero43 ?_;intro a7 w1 ha7 hA7 hx1 hs1
 have bb2:=bb1.ext hx1
 skip
 refine Q1 ?_;refine Q5 T.z43 hA7 ?_;intro w2 hA7 hg2 hs2
 have hx2:Ext w w2:=hx1.own hg2 (fun k hk=>by injection hk;omega)
 replace bb2:=bb1.ext hx2
 have hV2:=hV.ext hx2 0
 replace hA7:Blk w2.heap a7 43 [.int .i64 6,.int .i64 0,.int .i64 0,.slice none 0 0,.slice none 0 0]:=hA7
 have b4:=k4.blk.ext hx2
 have hM2:=hM.ext hx2 0
 have hS2:=hS.stp (ix:=ix) (T:=[]) (g':=rt g w 0) (Stq.of_ext hx2 0) (by simp)
 repeat' (first|refine R1 ?_|(refine Q1 ?_;first|(refine Q15 Tryz.underlying70 (t:=70) ?_)|(refine Q2 (hu:=by (first|exact T.f43_0|exact T.f72_5|exact T.f82_0)) ?_)|(refine Q3 (hu:=by (first|exact T.p3|exact T.p70|exact T.p46)) ?_))|refine R2 ?_|fail)
 all_goals try (exfalso;simp only at *;omega)
 refine Q1 ?_;refine Q4 (hc:=NQ hM2 hS2 hb hml0) ?_;rintro _ w4 ⟨⟨nc,rfl⟩,g4,mk,j,hS4,hM4,e1,e2,e3⟩;refine Kc ?_
 repeat' (first|refine R1 ?_|refine R2 ?_|fail)
 refine Zg ?_
 repeat' (first|refine R1 ?_|apply Zo|refine R2 ?_|fail)
 all_goals try (exfalso;simp only at *;omega)
 refine Kr Tryz.results12 ?_
 exact ⟨g4,mk,j,(Stq.of_ext hx2 0).trans hS4,hM4,e1,e2,e3⟩
theorem GX (k:Int) (w:World):(Instr.build 43 [(0,Value.int .i64 k)].toArray).run Tryz.prog w=.ok (.agg #[.int .i64 k,.int .i64 0,.int .i64 0,.slice none 0 0,.slice none 0 0]) w:=by kernel_rfl
theorem Ri (k j:Int) (w:World):(Instr.build 43 [(0,Value.int .i64 k),(2,Value.int .i64 j)].toArray).run Tryz.prog w=.ok (.agg #[.int .i64 k,.int .i64 0,.int .i64 j,.slice none 0 0,.slice none 0 0]) w:=by kernel_rfl
theorem Rk (s:Nat) (w:World):(Instr.build 39 [(0,Value.pointer (some (adr (bx s) 0)))].toArray).run Tryz.prog w=.ok (.agg #[.pointer (some (adr (bx s) 0))]) w:=by kernel_rfl
def Clis (g:Nat→Nat) (w:World) (m:Nat) (cs:List Cn):Prop:=∀(i:Nat) (x:Cn),cs[i]?=some x→Bk g w (x.b+4) x.cl 190 [.pointer (some (adr (bx m) 0)),.pointer none]
structure Opn (W0:World) (g:Nat→Nat) (w:World) (ix hb sb dk m k lg st each nn:Nat) (cs:List Cn) (key:ByteArray):Prop where
 bs:Bs W0 ix g w
 hs:Bk g w 9 hb 39 [.pointer (some (adr (bx sb) 0))]
 srv:Srv g w sb m k dk each nn 0 [0] cs 0
 con:Cs g w W0.heap.size 0 cs (fun _=>[])
 db:Db g w ix st k m lg dk key [] 0 0 0 [] nn 0
 cli:Clis g w m cs
theorem Ow {α:Type} {l:List α} {x z:α} {i:Nat} (h:(l++[x])[i]?=some z):l[i]?=some z∨i=l.length∧z=x:=by
 by_cases hi:i<l.length
 ·rw [List.getElem?_append_left hi] at h;exact .inl h
 ·rw [List.getElem?_append_right (by omega)] at h
  obtain ⟨j,hj⟩:∃j,i - l.length=j:=⟨_,rfl⟩
  rw [hj] at h
  cases j with
  | zero=>injection h with h;exact .inr ⟨by omega,h.symm⟩
  | succ j=>simp at h
set_option maxRecDepth 20000 in
theorem KE (hj:j≤7) (he:1≤each) (hn:1≤nn) (hb:2 * each+nn≤65536) :
  Ctr Tryz.prog 7 [.agg #[.int .i64 (each:Int),.int .i64 (nn:Int)],.int .i64 (j:Int)] w (fun v w'=>∃g' ix hb sb dk m k lg st cs,v=.pointer (some (adr (bx hb) 0))∧Opn w g' w' ix hb sb dk m k lg st each nn cs key∧cs.length=j):=by
 refine Ac Tryz.func7 Tryz.ntmps7 rfl rfl rfl ?_
 repeat' (refine R1 ?_)
 refine Q1 ?_;refine Q8 ?_;intro a2 w1 ha2 hA2 hx1 hs1
 replace hA2:Blk w1.heap a2 28 [.int .i64 (each:Int),.int .i64 (nn:Int)]:=hA2
 repeat' (first|refine R1 ?_|(refine Q1 ?_;first|(refine Q4 (f:=17) (hc:=Wy (key:=key) hx1 he hn hb) ?_;rintro _ w2 ⟨g2,sb,dk,m,k,lg,st,ix,rfl,hB2,hix,hx2,hV2,hDb2⟩;refine Kc ?_)|(refine Q15 Tryz.underlying37 (t:=37) ?_)|(apply Zi;exact rfl;exact Rk _;exact rfl)|refine Q11 T.a28 ?_)|refine R2 ?_|fail)
 all_goals try (exfalso;simp only at *;omega)
 refine Q1 ?_;refine Q8 ?_;intro a3 w3 ha3 hA3 hx3 hs3
 replace hA3:Blk w3.heap a3 39 [.pointer (some (adr (bx sb) 0))]:=hA3
 have hO3:Opn w (rt g2 w2 9) w3 ix a3 sb dk m k lg st each nn [] key :=
  ⟨hB2.stp (T:=[]) (Stq.of_ext hx3 9) (by simp),Bk.new hA3 (by omega) (by unfold ixT;decide),hV2.ext hx3 9,⟨by simp,fun i x h=>by simp at h⟩,hDb2.stp (T:=[]) (Stq.of_ext hx3 9) (fun t ht=>by cases ht),fun i x h=>by simp at h⟩
 repeat' (first|refine R1 ?_|refine R2 ?_|fail)
 refine Zh (ι:=Nat) (fun y=>[(1,.int .i64 (j:Int)),(7,.pointer (some (adr (bx a3) 0))),(8,.int .i64 (y:Int))])
  (fun y w'=>∃g' cs,Opn w g' w' ix a3 sb dk m k lg st each nn cs key∧cs.length=y∧y≤j) (fun y=>j - y) 0
  ⟨rfl,rfl,rfl,trivial⟩ ⟨_,[],hO3,rfl,Nat.zero_le _⟩ ?_
 rintro y w4 ⟨g4,cs,hO,hcs,hy⟩
 by_cases hlt:y<j
 ·have b4:=hO.hs.blk
  repeat' (first|refine R1 ?_|(refine Q1 ?_;first|(apply Zi;exact rfl;exact GX _;exact rfl)|(refine Q2 (hu:=T.f39_0) ?_)|(refine Q3 (hu:=T.p37) ?_))|refine R2 ?_|(apply Za;exact rfl;all_goals (intro h;try (exfalso;omega)))|fail)
  all_goals try (exfalso;simp only at *;omega)
  refine Q1 ?_
  refine Q12 Cr ⟨0,0,0,none,0,0⟩ T.s67 ?_
  intro p5 w5 hp5 hs5 hb5 hx5 hz5
  refine Q1 ?_;refine Q4 (hc:=Pg (ix:=ix) (b:=100 * (y+1)) (hO.srv.ext hx5 0) (by omega) ⟨by decide,by decide⟩ (by omega) hs5) ?_;rintro _ w6 ⟨g6,x,hxb,hrd,hS6,hV6,hL6,hSe6,hC6⟩;refine Kc ?_
  have hS:Stq ix [8] g4 g6 w4 w6:=(Stq.of_ext hx5 0).trans hS6
  have hO6:Opn w g6 w6 ix a3 sb dk m k lg st each nn (cs++[x]) key:=by
   have h1:=hO.con.stp hS (fun t ht=>by simp at ht;omega)
   refine ⟨hO.bs.stp hS (by simp),hO.hs.stp hS (by simp),hV6,⟨by rw [List.length_append];simp only [List.length_cons,List.length_nil];omega,fun i z hz=>?_⟩,hO.db.stp hS (fun t ht=>by simp at ht;omega),fun i z hz=>?_⟩
   ·rcases Ow hz with hz|⟨e,rfl⟩
    ·exact h1.one i z hz
    ·exact ⟨⟨false,hL6⟩,hSe6,by omega,by have:=hO.bs.ext.size;have:=hx5.size;omega⟩
   ·rcases Ow hz with hz|⟨e,rfl⟩
    ·exact (hO.cli i z hz).stp hS (by have:=(hO.con.one i z hz).2.2.1;simp;omega)
    ·exact hC6
  repeat' (first|refine R1 ?_|refine R2 ?_|fail)
  exact Zc (y+1) ⟨rfl,rfl,rfl,trivial⟩ ⟨g6,cs++[x],hO6,by rw [List.length_append,hcs];rfl,by omega⟩ (by omega)
 ·obtain rfl:y=j:=by omega
  repeat' (first|refine R1 ?_|refine R2 ?_|(apply Za;exact rfl;all_goals (intro h;try (exfalso;omega)))|fail)
  all_goals try (exfalso;simp only at *;omega)
  refine Kr Tryz.results7 ?_
  exact ⟨g4,ix,a3,sb,dk,m,k,lg,st,cs,rfl,hO,hcs⟩
theorem Gu {name:ByteArray} (h:name=Hz∨name=EW∨name=Dh):name∈AQ.map (·.1):=by
 rcases h with rfl|rfl|rfl
 ·exact List.mem_of_getElem? (i:=17) rfl
 ·exact List.mem_of_getElem? (i:=6) rfl
 ·exact List.mem_of_getElem? (i:=19) rfl
variable {cl jw : Nat}
def Wrote (ix st m k lg d:Nat) (key:ByteArray) (vs:List Ver) (last mark:Nat) (clk:Int) (ts:List TG) (nn used:Nat) (s:ByteArray) (e:Int) (R:Bg) (g:Nat→Nat) (w:World):Prop :=
 R=Av 0 sOK 0∧∃y:Wt,y.gone=false∧y.exp=e∧y.val.text=s∧Db g w ix st k m lg d key (vs++[y.v (last+1:Nat)]) (last+1) mark clk ts nn (used+DX (22+key.size+s.size))
theorem Wrote.stp {e:Int} {R:Bg} {T:List Nat} {g g':Nat→Nat} {w w':World} (h:Wrote ix st m k lg d key vs last mark clk ts nn used s e R g w) (hs:Stq ix T g g' w w') (hT:∀t∈T,t=0∨7<t):Wrote ix st m k lg d key vs last mark clk ts nn used s e R g' w':=by
 obtain ⟨h1,y,h2,h3,h4,h5⟩:=h
 exact ⟨h1,y,h2,h3,h4,h5.stp hs hT⟩
theorem VB (hD:Db g w ix st k m lg d key vs last mark clk ts nn used) (hC:Bk g w j cl 190 [.pointer (some (adr (bx m) 0)),.pointer none]) (hj:j ∉ [1,2,3,4,7]) (hA:SlT g w jw Ar q dq [Hz,key,s]) (hjw:jw ∉ [1,2,3,4,7]) (hl:ts.length≤8) (hvl:vs.length≤59) (hfit:last+1≤100000) (hcl:lastOf vs vs.length≤(last:Int)) (hk:key.size≤256) (hs:s.size≤4096) (hc:0≤clk) (hroom:used+DX (22+key.size+s.size)≤nn) :
  Ctr Tryz.prog 58 [.pointer (some (adr (bx cl) 0)),.slice q 3 dq] w (fun v w'=>∃R,v=.tuple #[.agg (Aq.enc R).toArray,.bool false]∧∃g',Stq ix [1,2,3,4,7] g g' w w'∧Wrote ix st m k lg d key vs last mark clk ts nn used s 0 R g' w'):=by
 refine Ia (Ψ:=Wrote ix st m k lg d key vs last mark clk ts nn used s 0) (fun R g1 w1 g2 w2 h hs=>h.stp hs (fun t ht=>by simp at ht;omega)) (by decide) hC.blk hA (by decide) (by decide) (fun w1=>OC) (fun w1=>EB (Gu (.inl rfl))) (fun w1 q' d' hx hS=>?_)
 have hD1:=hD.stp (ix:=ix) (T:=[]) (g':=rt g w 0) (Stq.of_ext hx 0) (fun t ht=>by cases ht)
 obtain ⟨sg,sv,ds,hK⟩:=hD1.kep
 refine (JL (R:=Av 0 sOK 0) (Ψ:=fun y=>y.key=key∧y.exp=0∧y.val.text=s∧y.gone=false) (hC.ext hx 0) hj hD1.mgr hl hD1.sto hK hS hjw hvl hfit hcl (by decide) ?_ ?_).mono ?_
 ·rintro y ⟨h1,h2,h3,h4⟩
  refine ⟨h1,?_⟩
  unfold Cu
  rw [h1,h3,h4]
  simp only [Bool.false_eq_true,if_false]
  rw [show 19+key.size+(3+s.size)=22+key.size+s.size by omega]
  exact hroom
 ·intro t mp g1 w1 vw _ hM hp hS hv hW
  refine (Xw (a:=⟨t,(last:Int),clk,false,mp⟩) (i:=ts.length) hM (by simp) rfl hp hS hk hs hv hc hW).mono ?_
  rintro v w' ⟨rfl,g',x,h1,h2,h3,h4,h5⟩
  exact ⟨rfl,g',x,h1,h2,h3,h4,h5,(h2.ok x rfl).gone⟩
 ·rintro v w' ⟨rfl,g',ds',y,⟨h1,h2,h3,h4⟩,hS,hM,hT,hK',-⟩
  refine ⟨_,rfl,g',hS,rfl,y,h4,h2,h3,hM,hT,sg,sv,ds',?_⟩
  have e:Cu y=22+key.size+s.size:=by
   unfold Cu
   rw [h1,h3,h4]
   simp only [Bool.false_eq_true,if_false]
   omega
  rw [← e]
  exact hK'
theorem Rz {n:Int} (_:Ext W0 w) (hB0:Bs W0 ix g w) (hT:Pow W0) (hD:Db g w ix st k m lg d key vs last mark clk ts nn used) (hC:Bk g w j cl 190 [.pointer (some (adr (bx m) 0)),.pointer none]) (hj:j ∉ [1,2,3,4,7]) (hA:SlT g w jw Ar q dq [Dh,key,num,s]) (hjw:jw ∉ [1,2,3,4,7]) (hl:ts.length≤8) (hvl:vs.length≤59) (hfit:last+1≤100000) (hcl:lastOf vs vs.length≤(last:Int)) (hk:key.size≤256) (hs:s.size≤4096) (hc:0≤clk) (hroom:used+DX (22+key.size+s.size)≤nn) (hnum:Cq num n) (hn:1≤n) (hle:clk+n≤1099511627776) :
  Ctr Tryz.prog 58 [.pointer (some (adr (bx cl) 0)),.slice q 4 dq] w (fun v w'=>∃R,v=.tuple #[.agg (Aq.enc R).toArray,.bool false]∧∃g',Stq ix [1,2,3,4,7] g g' w w'∧Wrote ix st m k lg d key vs last mark clk ts nn used s (clk+n) R g' w'):=by
 refine Ia (Ψ:=Wrote ix st m k lg d key vs last mark clk ts nn used s (clk+n)) (fun R g1 w1 g2 w2 h hs=>h.stp hs (fun t ht=>by simp at ht;omega)) (by decide) hC.blk hA (by decide) (by decide) (fun w1=>Lc) (fun w1=>EB (Gu (.inr (.inr rfl)))) (fun w1 q' d' hx hS=>?_)
 have hD1:=hD.stp (ix:=ix) (T:=[]) (g':=rt g w 0) (Stq.of_ext hx 0) (fun t ht=>by cases ht)
 obtain ⟨sg,sv,ds,hK⟩:=hD1.kep
 refine (JL (R:=Av 0 sOK 0) (Ψ:=fun y=>y.key=key∧y.exp=clk+n∧y.val.text=s∧y.gone=false) (hC.ext hx 0) hj hD1.mgr hl hD1.sto hK hS hjw hvl hfit hcl (by decide) ?_ ?_).mono ?_
 ·rintro y ⟨h1,h2,h3,h4⟩
  refine ⟨h1,?_⟩
  unfold Cu
  rw [h1,h3,h4]
  simp only [Bool.false_eq_true,if_false]
  rw [show 19+key.size+(3+s.size)=22+key.size+s.size by omega]
  exact hroom
 ·rintro t mp g1 w2 vw ⟨g0,hs0⟩ hM hp hS hv hW
  have hB2:=(hB0.stp (T:=[]) (Stq.of_ext hx 0) (by simp)).stp hs0 (by decide)
  refine (TT (a:=⟨t,(last:Int),clk,false,mp⟩) (i:=ts.length) hM (by simp) rfl hp hS hk hs hv hc hW hnum hn hle (FD hT hB2.ext)).mono ?_
  rintro v w' ⟨rfl,g',x,h1,h2,h3,h4,h5⟩
  exact ⟨rfl,g',x,h1,h2,h3,h4,h5,(h2.ok x rfl).gone⟩
 ·rintro v w' ⟨rfl,g',ds',y,⟨h1,h2,h3,h4⟩,hS,hM,hT,hK',-⟩
  refine ⟨_,rfl,g',hS,rfl,y,h4,h2,h3,hM,hT,sg,sv,ds',?_⟩
  have e:Cu y=22+key.size+s.size:=by
   unfold Cu
   rw [h1,h3,h4]
   simp only [Bool.false_eq_true,if_false]
   omega
  rw [← e]
  exact hK'
def Seen (ix st m k lg d:Nat) (key:ByteArray) (vs:List Ver) (last mark:Nat) (clk:Int) (ts:List TG) (nn used:Nat) (F:Aw→Bool→Bg) (s c:Int) (R:Bg) (g:Nat→Nat) (w:World):Prop :=
 (∃r ok,R=F r ok∧Dv vs s c r ok)∧Db g w ix st k m lg d key vs last mark clk ts nn used
theorem Seen.stp {F:Aw→Bool→Bg} {s c:Int} {R:Bg} {T:List Nat} {g g':Nat→Nat} {w w':World} (h:Seen ix st m k lg d key vs last mark clk ts nn used F s c R g w) (hs:Stq ix T g g' w w') (hT:∀t∈T,t=0∨7<t):Seen ix st m k lg d key vs last mark clk ts nn used F s c R g' w' :=
 ⟨h.1,h.2.stp hs hT⟩
theorem Tc (r:Aw):(Dp r).kind≠1:=by
 unfold Dp
 split
 ·exact show ¬(3:Int)=1 by decide
 ·exact show ¬(4:Int)=1 by decide
def Gp (_:Int) (r:Aw) (_:Bool):Bg:=Dp r
def JR (c:Int) (r:Aw) (ok:Bool):Bg:=Av 2 ⟨#[]⟩ (EK r ok c)
theorem Vf (c:Int) (r:Aw) (ok:Bool):(JR c r ok).kind≠1:=show ¬(2:Int)=1 by decide
theorem VA (hD:Db g w ix st k m lg d key vs last mark clk ts nn used) (hC:Bk g w j cl 190 [.pointer (some (adr (bx m) 0)),.pointer none]) (hj:j ∉ [4]) (hA:SlT g w jw Ar q dq [EW,key]) (hjw:jw ∉ [1,2,3,4,7]) (hl:ts.length≤8) (hk:key.size≤256) (_:0≤clk) (_:clk≤1099511627776) :
  Ctr Tryz.prog 58 [.pointer (some (adr (bx cl) 0)),.slice q 2 dq] w (fun v w'=>∃R,v=.tuple #[.agg (Aq.enc R).toArray,.bool false]∧∃g',Stq ix [4] g g' w w'∧Seen ix st m k lg d key vs last mark clk ts nn used (Gp clk) last clk R g' w'):=by
 refine Ia (Ψ:=Seen ix st m k lg d key vs last mark clk ts nn used (Gp clk) last clk) (fun R g1 w1 g2 w2 h hs=>h.stp hs (fun t ht=>by simp at ht;omega)) (by decide) hC.blk hA (by decide) (by decide) (fun w1=>IE) (fun w1=>EB (Gu (.inr (.inl rfl)))) (fun w1 q' d' hx hS=>?_)
 have hD1:=hD.stp (ix:=ix) (T:=[]) (g':=rt g w 0) (Stq.of_ext hx 0) (fun t ht=>by cases ht)
 obtain ⟨sg,sv,ds,hK⟩:=hD1.kep
 refine (Lu (Φ:=fun R=>∃r ok,R=(Gp clk) r ok∧Dv vs last clk r ok) (hC.ext hx 0) hj hD1.mgr hl hD1.sto hS hjw hk ?_ ?_).mono ?_
 ·rintro R ⟨r,ok,rfl,-⟩
  exact Tc r
 ·intro w2 t mp vw F hR hv hW
  refine (TS hR hv hW).mono ?_
  rintro v w' ⟨r,ok,rfl,h1,h2⟩
  exact ⟨_,rfl,⟨r,ok,rfl,h1⟩,h2⟩
 ·rintro v w' ⟨R,rfl,hR,g',hS,hM⟩
  exact ⟨R,rfl,g',hS,hR,hM,hD1.sto.stp hS (by decide),sg,sv,ds,hK.stp hS (by decide) (by decide) (by decide)⟩
theorem TF {i:Nat} {a:TG} (hD:Db g w ix st k m lg d key vs last mark clk ts nn used) (hi:ts[i]?=some a) (hro:a.ro=false) (hp:BF g w a.mp none) (hC:Bk g w j cl 190 [.pointer (some (adr (bx m) 0)),.pointer (some (adr (bx a.t) 0))]) (hA:SlT g w jw Ar q dq [EW,key]) (hk:key.size≤256) (_:0≤a.clk) (_:a.clk≤1099511627776) :
  Ctr Tryz.prog 58 [.pointer (some (adr (bx cl) 0)),.slice q 2 dq] w (fun v w'=>∃R,v=.tuple #[.agg (Aq.enc R).toArray,.bool false]∧∃g',Stq ix [] g g' w w'∧Seen ix st m k lg d key vs last mark clk ts nn used (Gp a.clk) a.start a.clk R g' w'):=by
 refine Ia (Ψ:=Seen ix st m k lg d key vs last mark clk ts nn used (Gp a.clk) a.start a.clk) (fun R g1 w1 g2 w2 h hs=>h.stp hs (fun t ht=>by simp at ht;omega)) (by decide) hC.blk hA (by decide) (by decide) (fun w1=>IE) (fun w1=>EB (Gu (.inr (.inl rfl)))) (fun w1 q' d' hx hS=>?_)
 have hD1:=hD.stp (ix:=ix) (T:=[]) (g':=rt g w 0) (Stq.of_ext hx 0) (fun t ht=>by cases ht)
 refine (Lt (Φ:=fun R=>∃r ok,R=(Gp a.clk) r ok∧Dv vs a.start a.clk r ok) (hC.ext hx 0).blk hD1.mgr hi hro (hp.ext hx 0) hD1.sto hS.sl hk ?_).mono ?_
 ·intro w2 vw F hR hv hW
  refine (TS hR hv hW).mono ?_
  rintro v w' ⟨r,ok,rfl,h1,h2⟩
  exact ⟨_,rfl,⟨r,ok,rfl,h1⟩,h2⟩
 ·rintro v w' ⟨R,rfl,hR,hx2⟩
  exact ⟨R,rfl,rt (rt g w 0) w1 0,Stq.of_ext hx2 0,hR,hD1.stp (ix:=ix) (T:=[]) (Stq.of_ext hx2 0) (fun t ht=>by cases ht)⟩
theorem VC (hD:Db g w ix st k m lg d key vs last mark clk ts nn used) (hC:Bk g w j cl 190 [.pointer (some (adr (bx m) 0)),.pointer none]) (hj:j ∉ [4]) (hA:SlT g w jw Ar q dq [CQ,key]) (hjw:jw ∉ [1,2,3,4,7]) (hl:ts.length≤8) (hk:key.size≤256) (hc:0≤clk) (hc':clk≤1099511627776) :
  Ctr Tryz.prog 58 [.pointer (some (adr (bx cl) 0)),.slice q 2 dq] w (fun v w'=>∃R,v=.tuple #[.agg (Aq.enc R).toArray,.bool false]∧∃g',Stq ix [4] g g' w w'∧Seen ix st m k lg d key vs last mark clk ts nn used (JR clk) last clk R g' w'):=by
 refine Ia (Ψ:=Seen ix st m k lg d key vs last mark clk ts nn used (JR clk) last clk) (fun R g1 w1 g2 w2 h hs=>h.stp hs (fun t ht=>by simp at ht;omega)) (by decide) hC.blk hA (by decide) (by decide) (fun w1=>IG) (fun w1=>JX) (fun w1 q' d' hx hS=>?_)
 have hD1:=hD.stp (ix:=ix) (T:=[]) (g':=rt g w 0) (Stq.of_ext hx 0) (fun t ht=>by cases ht)
 obtain ⟨sg,sv,ds,hK⟩:=hD1.kep
 refine (Lu (Φ:=fun R=>∃r ok,R=(JR clk) r ok∧Dv vs last clk r ok) (hC.ext hx 0) hj hD1.mgr hl hD1.sto hS hjw hk ?_ ?_).mono ?_
 ·rintro R ⟨r,ok,rfl,-⟩
  exact Vf _ r ok
 ·intro w2 t mp vw F hR hv hW
  refine (TW hR hv hc hc' hW).mono ?_
  rintro v w' ⟨r,ok,rfl,h1,h2⟩
  exact ⟨_,rfl,⟨r,ok,rfl,h1⟩,h2⟩
 ·rintro v w' ⟨R,rfl,hR,g',hS,hM⟩
  exact ⟨R,rfl,g',hS,hR,hM,hD1.sto.stp hS (by decide),sg,sv,ds,hK.stp hS (by decide) (by decide) (by decide)⟩
theorem TH {i:Nat} {a:TG} (hD:Db g w ix st k m lg d key vs last mark clk ts nn used) (hi:ts[i]?=some a) (hro:a.ro=false) (hp:BF g w a.mp none) (hC:Bk g w j cl 190 [.pointer (some (adr (bx m) 0)),.pointer (some (adr (bx a.t) 0))]) (hA:SlT g w jw Ar q dq [CQ,key]) (hk:key.size≤256) (hc:0≤a.clk) (hc':a.clk≤1099511627776) :
  Ctr Tryz.prog 58 [.pointer (some (adr (bx cl) 0)),.slice q 2 dq] w (fun v w'=>∃R,v=.tuple #[.agg (Aq.enc R).toArray,.bool false]∧∃g',Stq ix [] g g' w w'∧Seen ix st m k lg d key vs last mark clk ts nn used (JR a.clk) a.start a.clk R g' w'):=by
 refine Ia (Ψ:=Seen ix st m k lg d key vs last mark clk ts nn used (JR a.clk) a.start a.clk) (fun R g1 w1 g2 w2 h hs=>h.stp hs (fun t ht=>by simp at ht;omega)) (by decide) hC.blk hA (by decide) (by decide) (fun w1=>IG) (fun w1=>JX) (fun w1 q' d' hx hS=>?_)
 have hD1:=hD.stp (ix:=ix) (T:=[]) (g':=rt g w 0) (Stq.of_ext hx 0) (fun t ht=>by cases ht)
 refine (Lt (Φ:=fun R=>∃r ok,R=(JR a.clk) r ok∧Dv vs a.start a.clk r ok) (hC.ext hx 0).blk hD1.mgr hi hro (hp.ext hx 0) hD1.sto hS.sl hk ?_).mono ?_
 ·intro w2 vw F hR hv hW
  refine (TW hR hv hc hc' hW).mono ?_
  rintro v w' ⟨r,ok,rfl,h1,h2⟩
  exact ⟨_,rfl,⟨r,ok,rfl,h1⟩,h2⟩
 ·rintro v w' ⟨R,rfl,hR,hx2⟩
  exact ⟨R,rfl,rt (rt g w 0) w1 0,Stq.of_ext hx2 0,hR,hD1.stp (ix:=ix) (T:=[]) (Stq.of_ext hx2 0) (fun t ht=>by cases ht)⟩
def Le (ix st m k lg d:Nat) (key:ByteArray) (vs:List Ver) (last mark:Nat) (clk:Int) (ts:List TG) (nn used j cl:Nat) (R:Bg) (g:Nat→Nat) (w:World):Prop :=
 R=Av 0 sOK 0∧∃t mp,Db g w ix st k m lg d key vs last mark clk (ts++[⟨t,(last:Int),clk,false,mp⟩]) nn used∧BF g w mp none∧Bk g w j cl 190 [.pointer (some (adr (bx m) 0)),.pointer (some (adr (bx t) 0))]
theorem Le.stp {R:Bg} {T:List Nat} {g g':Nat→Nat} {w w':World} (h:Le ix st m k lg d key vs last mark clk ts nn used j cl R g w) (hs:Stq ix T g g' w w') (hT:∀t∈T,t=0∨7<t) (hj:j ∉ T):Le ix st m k lg d key vs last mark clk ts nn used j cl R g' w':=by
 obtain ⟨h1,t,mp,h2,h3,h4⟩:=h
 exact ⟨h1,t,mp,h2.stp hs hT,h3.stp hs (fun e=>by have:=hT _ e;omega),h4.stp hs hj⟩
theorem Ry (hD:Db g w ix st k m lg d key vs last mark clk ts nn used) (hC:Bk g w j cl 190 [.pointer (some (adr (bx m) 0)),.pointer none]) (hj:j ∉ [0,1,2,3,4,5,6,7]) (hA:SlT g w jw Ar q dq [El]) (hl:ts.length≤8) :
  Ctr Tryz.prog 58 [.pointer (some (adr (bx cl) 0)),.slice q 1 dq] w (fun v w'=>∃R,v=.tuple #[.agg (Aq.enc R).toArray,.bool false]∧∃g',Stq ix [4,j] g g' w w'∧Le ix st m k lg d key vs last mark clk ts nn used j cl R g' w'):=by
 have hj':=hj
 simp only [List.mem_cons,List.not_mem_nil,or_false,not_or] at hj'
 refine WB (Ψ:=Le ix st m k lg d key vs last mark clk ts nn used j cl) (fun R g1 w1 g2 w2 h hs=>h.stp hs (fun t ht=>by simp at ht;omega) (by simp;omega)) (by simp;omega) hC.blk hA (fun w1 q' d' hx hS=>?_)
 have hD1:=hD.stp (ix:=ix) (T:=[]) (g':=rt g w 0) (Stq.of_ext hx 0) (fun t ht=>by cases ht)
 obtain ⟨sg,sv,ds,hK⟩:=hD1.kep
 refine (SV (ix:=ix) (hC.ext hx 0) (by simp;omega) hD1.mgr hl hD1.sto).mono ?_
 rintro v w' ⟨rfl,g',t,mp,hS,hM,hp,hc⟩
 exact ⟨_,rfl,g',hS,rfl,t,mp,⟨hM,hD1.sto.stp hS (by simp;omega),sg,sv,ds,hK.stp hS (by simp;omega) (by simp;omega) (by simp;omega)⟩,hp,hc⟩
theorem Uo:Lf (Av 0 sOK 0):=⟨rfl,by decide,by unfold AC;decide,by decide,by decide⟩
theorem Un:Lf (Av 4 ⟨#[]⟩ 0):=⟨rfl,by decide,by unfold AC;decide,by decide,by decide⟩
theorem Wd {s:ByteArray} (h:s.size≤2000):Lf (Av 3 s 0):=⟨rfl,by simp [Bu,Ca,trR,Av,Rep.kind,Rep.l,Rep.n,Rep.s],show AC 0 by unfold AC;decide,h,show ¬(3:Int)=5 by decide⟩
theorem XC {n:Int} (h:AC n):Lf (Av 2 ⟨#[]⟩ n):=⟨rfl,by simp [Bu,Ca,trR,Av,Rep.kind,Rep.l,Rep.n,Rep.s],h,by show (0:Nat)≤2000;decide,show ¬(2:Int)=5 by decide⟩
theorem HV {vs:List Ver} {s c:Int} {v:Ver} (h:Gd vs s c v):v∈vs:=by
 obtain ⟨n,_,_,h1,_⟩:=h
 exact List.mem_of_getElem? h1
theorem Um {vs:List Ver} {s c c':Int} {r:Aw} {ok:Bool} (h:Dv vs s c r ok) (hv:∀v∈vs,v.val.text.size≤2000):Lf (Gp c' r ok):=by
 unfold Gp Dp
 cases ok with
 | false =>
  obtain ⟨rfl,-⟩:=h.1 rfl
  exact Un
 | true =>
  obtain ⟨v,h1,h2⟩:=h.2 rfl
  have:=(h2 #[]).val.text
  split
  ·exact Wd (by rw [this];exact hv v (HV h1))
  ·exact Un
theorem Uq {vs:List Ver} {s c c':Int} {r:Aw} {ok:Bool} (h:Dv vs s c r ok) (hv:∀v∈vs,0≤v.exp∧v.exp≤1099511627776) (h0:0≤c') (h1:c'≤1099511627776):Lf (JR c' r ok):=by
 unfold JR
 apply XC
 unfold EK
 cases ok with
 | false=>rw [if_pos rfl];unfold AC;decide
 | true =>
  obtain ⟨v,h1,h2⟩:=h.2 rfl
  have e:=(h2 #[]).exp
  have:=hv v (HV h1)
  rw [if_neg (by decide)]
  unfold AC
  split
  ·decide
  ·omega
structure Hse (W0:World) (g:Nat→Nat) (w:World) (ix hb sb dk m k:Nat) (slot log clk:Int) (cs:List Cn) (n:Nat):Prop where
 bs:Bs W0 ix g w
 hs:Bk g w 9 hb 39 [.pointer (some (adr (bx sb) 0))]
 srv:Srv g w sb m k dk slot log clk [0] cs n
 con:∃ou,Cs g w W0.heap.size n cs ou
theorem Hse.stp {W0:World} {T:List Nat} {g g':Nat→Nat} {w w':World} {ix hb sb dk m k n:Nat} {slot log clk:Int} {cs:List Cn} (h:Hse W0 g w ix hb sb dk m k slot log clk cs n) (s:Stq ix T g g' w w') (hT:∀t∈T,0<t∧t<8):Hse W0 g' w' ix hb sb dk m k slot log clk cs n:=by
 have nt:∀t,t=0∨7<t→t ∉ T:=fun t ht e=>by have:=hT t e;omega
 obtain ⟨ou,hc⟩:=h.con
 exact ⟨h.bs.stp s (nt 0 (.inl rfl)),h.hs.stp s (nt 9 (by omega)),h.srv.stp s (nt 8 (by omega)),ou,hc.stp s (fun t ht=>by have:=hT t ht;omega)⟩
theorem Hse.xt {W0:World} {g:Nat→Nat} {w w':World} {ix hb sb dk m k n:Nat} {slot log clk:Int} {cs:List Cn} (h:Hse W0 g w ix hb sb dk m k slot log clk cs n) (hx:Ext w w') (u:Nat):Hse W0 (rt g w u) w' ix hb sb dk m k slot log clk cs n:=h.stp (T:=[]) (Stq.of_ext hx u) (fun t ht=>by cases ht)
variable {l : List ByteArray} {U : List Nat} {Ψ : Bg → (Nat → Nat) → World → Prop}
abbrev Nq (x:Cn) (U:List Nat):List Nat:=8 :: x.b :: (x.b+1) :: (x.b+2) :: (x.b+3) :: U
theorem JF (h:Hse W0 g w ix hb sb dk m k slot log clk cs n) (hP:Pow W0) (hE:CL W0) (hi:cs[i]?=some x) (hn:n≤190) (hl:FE l) (hW:Sl w.heap Ar q dq l) (hU:∀t∈U,0<t∧(t<8∨t=x.b+4))
  (hst:∀R g1 w1 g2 w2,Ψ R g1 w1→Stq ix [0,8,x.b,x.b+1,x.b+2,x.b+3] g1 g2 w1 w2→Ψ R g2 w2) (hLf:∀R g1 w1,Ψ R g1 w1→Lf R)
  (hDo:∀g1 w1 q2 d2,Stq ix [8,x.b,x.b+1,x.b+2,x.b+3] g g1 w w1→SlT g1 w1 (x.b+3) Ar q2 d2 l→Ctr Tryz.prog 58 [.pointer (some (adr (bx x.cl) 0)),.slice q2 l.length d2] w1 (fun v w'=>∃R,v=.tuple #[.agg (Aq.enc R).toArray,.bool false]∧∃g',Stq ix U g1 g' w1 w'∧Ψ R g' w')) :
  Ctr Tryz.prog 10 [.pointer (some (adr (bx hb) 0)),.int .i64 (i:Int),.slice q l.length dq] w (fun v w'=>∃R r g',v=.agg (Aq.enc r).toArray∧r.kind=R.kind∧r.s=R.s∧r.n=R.n∧Stq ix (Nq x U) g g' w w'∧Hse W0 g' w' ix hb sb dk m k slot log clk cs (n+4)∧Ψ R g' w'):=by
 obtain ⟨ou,hc⟩:=h.con
 refine (WF h.bs hP hE h.hs h.srv hc hi hn hl hU hW hst hLf hDo).mono ?_
 rintro v w' ⟨R,r,g',ou',rfl,h1,h2,h3,hS,hH,hV,hC,hΨ⟩
 have hb:=(hc.one i x hi).2.2.1
 exact ⟨R,r,g',rfl,h1,h2,h3,hS,⟨h.bs.stp hS (by simp;exact ⟨by omega,fun e=>by have:=hU _ e;omega⟩),hH,hV,ou',hC⟩,hΨ⟩
theorem DY {v:Ver} {s c:Int} {r:Aw} {ok:Bool} (hv:v.stamp≤s) (h:Dv [v] s c r ok):(Eh v c∧ok=true∧r.exp=v.exp∧r.raw.kind=v.val.kind∧r.raw.text=v.val.text)∨(¬Eh v c∧ok=false∧r=EX):=by
 have hs:Eh v c→Gd [v] s c v:=fun ha=>⟨1,⟨Nat.le_refl _,fun i y hi hy=>by
  match i with
  | 0=>injection hy with hy;subst hy;exact hv
  | i+1=>omega,fun i y hi hy=>by
  match i with
  | 0=>omega
  | i+1=>simp at hy⟩,by decide,rfl,ha⟩
 have hk:∀y,Gd [v] s c y→y=v∧Eh v c:=fun y hy=>by
  have e:=HV hy
  obtain ⟨_,_,_,_,ha⟩:=hy
  simp only [List.mem_singleton] at e
  subst e
  exact ⟨rfl,ha⟩
 cases ok with
 | false =>
  obtain ⟨h1,h2⟩:=h.1 rfl
  exact .inr ⟨fun ha=>h2 v (hs ha),rfl,h1⟩
 | true =>
  obtain ⟨y,h1,h2⟩:=h.2 rfl
  obtain ⟨rfl,ha⟩:=hk y h1
  have h3:=h2 #[]
  exact .inl ⟨ha,rfl,h3.exp,h3.val.kind,h3.val.text⟩
theorem EH {l:List ByteArray} (h0:l≠[]) (h1:l.length≤128) (h2:∀w∈l,w.size≤4096):FE l:=⟨h0,h1,h2⟩
theorem UK {t b:Nat} (h:t∈[1,2,3,4,7]):0<t∧(t<8∨t=b):=by simp at h;omega
theorem Vm (h:Hse W0 g w ix hb sb dk m k slot log clk cs n) (hP:Pow W0) (hE:CL W0) (hi:cs[i]?=some x) (hn:n≤190) (hD:Db g w ix st k m lg d key vs last mark clk ts nn used) (hC:Bk g w (x.b+4) x.cl 190 [.pointer (some (adr (bx m) 0)),.pointer none]) (hW:Sl w.heap Ar q dq [Hz,key,s]) (hl:ts.length≤8) (hvl:vs.length≤59) (hfit:last+1≤100000) (hcl:lastOf vs vs.length≤(last:Int)) (hk:key.size≤256) (hs:s.size≤4096) (hc:0≤clk) (hroom:used+DX (22+key.size+s.size)≤nn) :
  Ctr Tryz.prog 10 [.pointer (some (adr (bx hb) 0)),.int .i64 (i:Int),.slice q 3 dq] w (fun v w'=>∃R r g',v=.agg (Aq.enc r).toArray∧r.kind=R.kind∧r.s=R.s∧r.n=R.n∧Stq ix (Nq x [1,2,3,4,7]) g g' w w'∧Hse W0 g' w' ix hb sb dk m k slot log clk cs (n+4)∧Wrote ix st m k lg d key vs last mark clk ts nn used s 0 R g' w'):=by
 obtain ⟨ou,hc0⟩:=h.con
 have hb:=(hc0.one i x hi).2.2.1
 exact JF h hP hE hi hn (EH (l:=[Hz,key,s]) (by simp) (by simp) (fun z hz=>by simp only [List.mem_cons,List.not_mem_nil,or_false] at hz;rcases hz with rfl|rfl|rfl <;> first|decide|omega)) hW (fun t ht=>UK ht)
  (fun R g1 w1 g2 w2 hw hs=>hw.stp hs (fun t ht=>by simp at ht;omega)) (fun R g1 w1 hw=>by rw [hw.1];exact Uo)
  (fun g1 w1 q2 d2 hS hA=>VB (hD.stp hS (fun t ht=>by simp at ht;omega)) (hC.stp hS (by simp;omega)) (by simp;omega) hA (by simp;omega) hl hvl hfit hcl hk hs hc hroom)
theorem Rc {e:Int} (h:Hse W0 g w ix hb sb dk m k slot log clk cs n) (hP:Pow W0) (hE:CL W0) (hi:cs[i]?=some x) (hn:n≤190) (hD:Db g w ix st k m lg d key vs last mark clk ts nn used) (hC:Bk g w (x.b+4) x.cl 190 [.pointer (some (adr (bx m) 0)),.pointer none]) (hW:Sl w.heap Ar q dq [Dh,key,num,s]) (hl:ts.length≤8) (hvl:vs.length≤59) (hfit:last+1≤100000) (hcl:lastOf vs vs.length≤(last:Int)) (hk:key.size≤256) (hs:s.size≤4096) (hns:num.size≤4096) (hc:0≤clk) (hroom:used+DX (22+key.size+s.size)≤nn) (hnum:Cq num e) (he:1≤e) (hle:clk+e≤1099511627776) :
  Ctr Tryz.prog 10 [.pointer (some (adr (bx hb) 0)),.int .i64 (i:Int),.slice q 4 dq] w (fun v w'=>∃R r g',v=.agg (Aq.enc r).toArray∧r.kind=R.kind∧r.s=R.s∧r.n=R.n∧Stq ix (Nq x [1,2,3,4,7]) g g' w w'∧Hse W0 g' w' ix hb sb dk m k slot log clk cs (n+4)∧Wrote ix st m k lg d key vs last mark clk ts nn used s (clk+e) R g' w'):=by
 obtain ⟨ou,hc0⟩:=h.con
 have hb:=(hc0.one i x hi).2.2.1
 exact JF h hP hE hi hn (EH (l:=[Dh,key,num,s]) (by simp) (by simp) (fun z hz=>by simp only [List.mem_cons,List.not_mem_nil,or_false] at hz;rcases hz with rfl|rfl|rfl|rfl <;> first|decide|omega)) hW (fun t ht=>UK ht)
  (fun R g1 w1 g2 w2 hw hs=>hw.stp hs (fun t ht=>by simp at ht;omega)) (fun R g1 w1 hw=>by rw [hw.1];exact Uo)
  (fun g1 w1 q2 d2 hS hA=>Rz (h.bs.stp hS (by simp;omega)).ext (h.bs.stp hS (by simp;omega)) hP (hD.stp hS (fun t ht=>by simp at ht;omega)) (hC.stp hS (by simp;omega)) (by simp;omega) hA (by simp;omega) hl hvl hfit hcl hk hs hc hroom hnum he hle)
theorem Qp (h:Hse W0 g w ix hb sb dk m k slot log clk cs n) (hP:Pow W0) (hE:CL W0) (hi:cs[i]?=some x) (hn:n≤190) (hD:Db g w ix st k m lg d key vs last mark clk ts nn used) (hC:Bk g w (x.b+4) x.cl 190 [.pointer (some (adr (bx m) 0)),.pointer none]) (hW:Sl w.heap Ar q dq [EW,key]) (hl:ts.length≤8) (hk:key.size≤256) (hc:0≤clk) (hc':clk≤1099511627776) (hv:∀v∈vs,v.val.text.size≤2000) :
  Ctr Tryz.prog 10 [.pointer (some (adr (bx hb) 0)),.int .i64 (i:Int),.slice q 2 dq] w (fun v w'=>∃R r g',v=.agg (Aq.enc r).toArray∧r.kind=R.kind∧r.s=R.s∧r.n=R.n∧Stq ix (Nq x [4]) g g' w w'∧Hse W0 g' w' ix hb sb dk m k slot log clk cs (n+4)∧Seen ix st m k lg d key vs last mark clk ts nn used (Gp clk) last clk R g' w'):=by
 obtain ⟨ou,hc0⟩:=h.con
 have hb:=(hc0.one i x hi).2.2.1
 exact JF h hP hE hi hn (EH (l:=[EW,key]) (by simp) (by simp) (fun z hz=>by simp only [List.mem_cons,List.not_mem_nil,or_false] at hz;rcases hz with rfl|rfl <;> first|decide|omega)) hW (fun t ht=>by simp at ht;omega)
  (fun R g1 w1 g2 w2 hw hs=>hw.stp hs (fun t ht=>by simp at ht;omega)) (fun R g1 w1 hw=>by obtain ⟨⟨r,ok,rfl,h1⟩,-⟩:=hw;exact Um h1 hv)
  (fun g1 w1 q2 d2 hS hA=>VA (hD.stp hS (fun t ht=>by simp at ht;omega)) (hC.stp hS (by simp;omega)) (by simp;omega) hA (by simp;omega) hl hk hc hc')
theorem Nn {a:TG} {u:Nat} (h:Hse W0 g w ix hb sb dk m k slot log clk cs n) (hP:Pow W0) (hE:CL W0) (hi:cs[i]?=some x) (hn:n≤190) (hD:Db g w ix st k m lg d key vs last mark clk ts nn used) (hu:ts[u]?=some a) (hro:a.ro=false) (hp:BF g w a.mp none) (hC:Bk g w (x.b+4) x.cl 190 [.pointer (some (adr (bx m) 0)),.pointer (some (adr (bx a.t) 0))]) (hW:Sl w.heap Ar q dq [EW,key]) (hk:key.size≤256) (hc:0≤a.clk) (hc':a.clk≤1099511627776) (hv:∀v∈vs,v.val.text.size≤2000) :
  Ctr Tryz.prog 10 [.pointer (some (adr (bx hb) 0)),.int .i64 (i:Int),.slice q 2 dq] w (fun v w'=>∃R r g',v=.agg (Aq.enc r).toArray∧r.kind=R.kind∧r.s=R.s∧r.n=R.n∧Stq ix (Nq x []) g g' w w'∧Hse W0 g' w' ix hb sb dk m k slot log clk cs (n+4)∧Seen ix st m k lg d key vs last mark clk ts nn used (Gp a.clk) a.start a.clk R g' w'):=by
 obtain ⟨ou,hc0⟩:=h.con
 have hb:=(hc0.one i x hi).2.2.1
 exact JF h hP hE hi hn (EH (l:=[EW,key]) (by simp) (by simp) (fun z hz=>by simp only [List.mem_cons,List.not_mem_nil,or_false] at hz;rcases hz with rfl|rfl <;> first|decide|omega)) hW (fun t ht=>by cases ht)
  (fun R g1 w1 g2 w2 hw hs=>hw.stp hs (fun t ht=>by simp at ht;omega)) (fun R g1 w1 hw=>by obtain ⟨⟨r,ok,rfl,h1⟩,-⟩:=hw;exact Um h1 hv)
  (fun g1 w1 q2 d2 hS hA=>TF (hD.stp hS (fun t ht=>by simp at ht;omega)) hu hro (hp.stp hS (by simp;omega)) (hC.stp hS (by simp;omega)) hA hk hc hc')
theorem Vn (h:Hse W0 g w ix hb sb dk m k slot log clk cs n) (hP:Pow W0) (hE:CL W0) (hi:cs[i]?=some x) (hn:n≤190) (hD:Db g w ix st k m lg d key vs last mark clk ts nn used) (hC:Bk g w (x.b+4) x.cl 190 [.pointer (some (adr (bx m) 0)),.pointer none]) (hW:Sl w.heap Ar q dq [CQ,key]) (hl:ts.length≤8) (hk:key.size≤256) (hc:0≤clk) (hc':clk≤1099511627776) (hv:∀v∈vs,0≤v.exp∧v.exp≤1099511627776) :
  Ctr Tryz.prog 10 [.pointer (some (adr (bx hb) 0)),.int .i64 (i:Int),.slice q 2 dq] w (fun v w'=>∃R r g',v=.agg (Aq.enc r).toArray∧r.kind=R.kind∧r.s=R.s∧r.n=R.n∧Stq ix (Nq x [4]) g g' w w'∧Hse W0 g' w' ix hb sb dk m k slot log clk cs (n+4)∧Seen ix st m k lg d key vs last mark clk ts nn used (JR clk) last clk R g' w'):=by
 obtain ⟨ou,hc0⟩:=h.con
 have hb:=(hc0.one i x hi).2.2.1
 exact JF h hP hE hi hn (EH (l:=[CQ,key]) (by simp) (by simp) (fun z hz=>by simp only [List.mem_cons,List.not_mem_nil,or_false] at hz;rcases hz with rfl|rfl <;> first|decide|omega)) hW (fun t ht=>by simp at ht;omega)
  (fun R g1 w1 g2 w2 hw hs=>hw.stp hs (fun t ht=>by simp at ht;omega)) (fun R g1 w1 hw=>by obtain ⟨⟨r,ok,rfl,h1⟩,-⟩:=hw;exact Uq h1 hv hc hc')
  (fun g1 w1 q2 d2 hS hA=>VC (hD.stp hS (fun t ht=>by simp at ht;omega)) (hC.stp hS (by simp;omega)) (by simp;omega) hA (by simp;omega) hl hk hc hc')
theorem Np {a:TG} {u:Nat} (h:Hse W0 g w ix hb sb dk m k slot log clk cs n) (hP:Pow W0) (hE:CL W0) (hi:cs[i]?=some x) (hn:n≤190) (hD:Db g w ix st k m lg d key vs last mark clk ts nn used) (hu:ts[u]?=some a) (hro:a.ro=false) (hp:BF g w a.mp none) (hC:Bk g w (x.b+4) x.cl 190 [.pointer (some (adr (bx m) 0)),.pointer (some (adr (bx a.t) 0))]) (hW:Sl w.heap Ar q dq [CQ,key]) (hk:key.size≤256) (hc:0≤a.clk) (hc':a.clk≤1099511627776) (hv:∀v∈vs,0≤v.exp∧v.exp≤1099511627776) :
  Ctr Tryz.prog 10 [.pointer (some (adr (bx hb) 0)),.int .i64 (i:Int),.slice q 2 dq] w (fun v w'=>∃R r g',v=.agg (Aq.enc r).toArray∧r.kind=R.kind∧r.s=R.s∧r.n=R.n∧Stq ix (Nq x []) g g' w w'∧Hse W0 g' w' ix hb sb dk m k slot log clk cs (n+4)∧Seen ix st m k lg d key vs last mark clk ts nn used (JR a.clk) a.start a.clk R g' w'):=by
 obtain ⟨ou,hc0⟩:=h.con
 have hb:=(hc0.one i x hi).2.2.1
 exact JF h hP hE hi hn (EH (l:=[CQ,key]) (by simp) (by simp) (fun z hz=>by simp only [List.mem_cons,List.not_mem_nil,or_false] at hz;rcases hz with rfl|rfl <;> first|decide|omega)) hW (fun t ht=>by cases ht)
  (fun R g1 w1 g2 w2 hw hs=>hw.stp hs (fun t ht=>by simp at ht;omega)) (fun R g1 w1 hw=>by obtain ⟨⟨r,ok,rfl,h1⟩,-⟩:=hw;exact Uq h1 hv hc hc')
  (fun g1 w1 q2 d2 hS hA=>TH (hD.stp hS (fun t ht=>by simp at ht;omega)) hu hro (hp.stp hS (by simp;omega)) (hC.stp hS (by simp;omega)) hA hk hc hc')
theorem Rb (h:Hse W0 g w ix hb sb dk m k slot log clk cs n) (hP:Pow W0) (hE:CL W0) (hi:cs[i]?=some x) (hn:n≤190) (hD:Db g w ix st k m lg d key vs last mark clk ts nn used) (hC:Bk g w (x.b+4) x.cl 190 [.pointer (some (adr (bx m) 0)),.pointer none]) (hW:Sl w.heap Ar q dq [El]) (hl:ts.length≤8) :
  Ctr Tryz.prog 10 [.pointer (some (adr (bx hb) 0)),.int .i64 (i:Int),.slice q 1 dq] w (fun v w'=>∃R r g',v=.agg (Aq.enc r).toArray∧r.kind=R.kind∧r.s=R.s∧r.n=R.n∧Stq ix (Nq x [4,x.b+4]) g g' w w'∧Hse W0 g' w' ix hb sb dk m k slot log clk cs (n+4)∧Le ix st m k lg d key vs last mark clk ts nn used (x.b+4) x.cl R g' w'):=by
 obtain ⟨ou,hc0⟩:=h.con
 have hb:=(hc0.one i x hi).2.2.1
 exact JF h hP hE hi hn (EH (l:=[El]) (by simp) (by simp) (fun z hz=>by simp at hz;subst hz;decide)) hW (fun t ht=>by simp at ht;omega)
  (fun R g1 w1 g2 w2 hw hs=>hw.stp hs (fun t ht=>by simp at ht;omega) (by simp;omega)) (fun R g1 w1 hw=>by rw [hw.1];exact Uo)
  (fun g1 w1 q2 d2 hS hA=>Ry (hD.stp hS (fun t ht=>by simp at ht;omega)) (hC.stp hS (by simp;omega)) (by simp;omega) hA hl)
theorem TA (w:World):(Instr.build 28 [(0,Value.agg #[.int .i64 200,.int .i64 2000])].toArray).run Tryz.prog w=.ok (.agg #[.int .i64 200,.int .i64 2000]) w:=by kernel_rfl
theorem Rm (w:World):(Instr.build 26 [(0,Value.int .i64 200),(1,Value.int .i64 2000)].toArray).run Tryz.prog w=.ok (.agg #[.int .i64 200,.int .i64 2000]) w:=by kernel_rfl
theorem Opn.hse {W0:World} {g:Nat→Nat} {w:World} {ix hb sb dk m k lg st each nn:Nat} {cs:List Cn} {key:ByteArray} (h:Opn W0 g w ix hb sb dk m k lg st each nn cs key):Hse W0 g w ix hb sb dk m k each nn 0 cs 0:=⟨h.bs,h.hs,h.srv,_,h.con⟩
set_option maxRecDepth 20000 in
theorem JW:Ctr Tryz.prog 8 [] w (fun v w'=>v=.agg #[.int .i64 ((200:Nat):Int),.int .i64 ((2000:Nat):Int)]∧Ext w w'):=by
 refine Ac Tryz.func8 Tryz.ntmps8 rfl rfl rfl ?_
 repeat' (refine R1 ?_)
 refine Q1 ?_;refine Q7 T.zero28 ?_;intro a0 w1 ha0 hA0 hx1 hs1
 repeat' (first|(refine Q1 ?_;first|(apply Zi;exact rfl;exact Rm;exact rfl)|(apply Zi;exact rfl;exact TA;exact rfl))|refine R1 ?_|fail)
 refine Q1 ?_;refine Q5 T.z28 hA0 ?_;intro w2 hA0 hg2 hs2
 replace hA0:Blk w2.heap a0 28 [.int .i64 200,.int .i64 2000]:=hA0
 repeat' (first|refine R1 ?_|refine R2 ?_|fail)
 refine Ze Tryz.results8 ⟨_,_,_,rfl,rfl,Ae T.a28 (by assumption) rfl,rfl⟩ ?_
 exact ⟨rfl,hx1.own hg2 (fun k hk=>by injection hk;omega)⟩
theorem LY {a n:Int} (hn:0<n) (hn':n≤1000) (_:AC a):Ctr Tryz.prog 9 [.int .i64 a,.int .i64 n] w (fun v w'=>v=.int .i64 (a % n)∧w=w'):=by
 have h1:-n<a.tmod n:=by
  have:=Int.tmod_lt_of_pos (-a) hn
  rw [Int.neg_tmod] at this
  omega
 have h2:a.tmod n<n:=Int.tmod_lt_of_pos a hn
 have e:(a.tmod n+n).tmod n=a % n:=by
  rw [Int.tmod_eq_emod_of_nonneg (by omega),Int.add_emod_right]
  by_cases h0:0≤a
  ·rw [Int.tmod_eq_emod_of_nonneg h0,Int.emod_emod_of_dvd _ (Int.dvd_refl n)]
  ·have h3:a.tmod n = -((-a) % n):=by
    have:a = -(-a):=by omega
    rw [this,Int.neg_tmod,Int.tmod_eq_emod_of_nonneg (by omega)]
    simp
   rw [h3]
   have h4:(-a)=n * ((-a) / n)+(-a) % n:=(Int.mul_ediv_add_emod (-a) n).symm
   have h5:-((-a) % n)=a+n * ((-a) / n):=by omega
   rw [h5,Int.add_mul_emod_self_left]
 refine Ac Tryz.func9 Tryz.ntmps9 rfl rfl rfl ?_
 repeat' (first|refine R1 ?_|refine R2 ?_|fail)
 refine Kr Tryz.results9 ?_
 exact ⟨by rw [e];rfl,rfl⟩
set_option maxRecDepth 20000 in
theorem PE (hP:Pow w) (hE:CL w):Ctr Tryz.prog 6 [] w (fun v w'=>v=.bool true∧Ext w w'):=by
 refine Ac Tryz.func6 Tryz.ntmps6 rfl rfl rfl ?_
 repeat' (first|refine R1 ?_|(refine Q1 ?_;(refine Q4 (f:=8) (hc:=JW) ?_;rintro _ w1 ⟨rfl,hx1⟩;refine Kc ?_))|fail)
 refine Q1 ?_;refine Q4 (hc:=KE (each:=200) (nn:=2000) (j:=2) (key:=⟨#[97]⟩) (by decide) (by decide) (by decide) (by decide)) ?_;rintro _ w2 ⟨g2,ix,hb,sb,dk,m,k,lg,st,cs,rfl,hO2,hcs⟩;refine Kc ?_
 have hH2:=hO2.hse
 have b2:=hH2.hs.blk
 obtain ⟨x0,hx0⟩:=Aj (xs:=cs) (k:=0) (by omega)
 obtain ⟨x1,hx1'⟩:=Aj (xs:=cs) (k:=1) (by omega)
 have hcl:=hO2.con.len
 repeat' (first|refine R1 ?_|(refine Q1 ?_;first|(refine Q4 (f:=16) (hc:=Me hO2.srv (by omega) (by decide) (fun i x hx=>⟨(hO2.con.one i x hx).1,none,0,[],_,(hO2.con.one i x hx).2.1⟩)) ?_;rintro _ w3 ⟨p3,c3,ws,rfl,hl3,_,_,hx3⟩;refine Kc ?_;replace b2:=b2.ext (Kx hx3))|(refine Q15 Tryz.underlying23 (t:=23) ?_)|(refine Q15 Tryz.underlying46 (t:=46) ?_)|(refine Q4 (f:=14) (hc:=IC (hO2.srv.ext hx3 0)) ?_;rintro _ _ ⟨rfl,rfl⟩;refine Kc ?_)|(refine Q2 (hu:=T.f39_0) ?_)|(refine Q3 (hu:=T.p37) ?_)|(refine Q6 (hu:=T.s56) ?_))|refine R2 ?_|((fail_if_success (refine Q1 ?_));apply Zb;exact rfl;exact rfl;all_goals (intro h;try (exfalso;omega)))|fail)
 have hP1:Pow w1:=FD hP hx1
 have hE1:CL w1:=CL.ext hE hx1
 refine Q1 ?_
 refine Q24 Ar [Hz,⟨#[97]⟩,⟨#[49]⟩] T.s61 ?_
 intro p4 w4 ho4 hx4 hz4
 have hx24:=hx3.trans hx4
 have hC0:=(hO2.cli 0 x0 hx0).ext hx24 0
 refine Q1 ?_;refine Q4 (hc:=Vm (hH2.xt hx24 0) hP1 hE1 hx0 (by decide) (hO2.db.stp (T:=[]) (Stq.of_ext hx24 0) (fun t ht=>by cases ht)) hC0 ho4.sl (by decide) (by decide) (by decide) (by decide) (by decide) (by decide) (by decide) (by decide)) ?_;rintro _ w5 ⟨R5,r5,g5,rfl,e51,e52,e53,hS5,hH5,hW5⟩;refine Kc ?_
 obtain ⟨rfl,y,y1,y2,y3,hD5⟩:=hW5
 skip
 refine Q1 ?_;refine Q7 T.zero33 ?_;intro a6 w6 ha6 hA6 hx6 hs6
 skip
 refine Q1 ?_;refine Q5 T.z33 hA6 ?_;intro w7 hA7 hg7 hs7
 replace hA7:Blk w7.heap a6 33 (Aq.enc r5):=hA7
 repeat' (refine R1 ?_)
 have hb0:=(hO2.con.one 0 x0 hx0).2.2.1
 have hb1:=(hO2.con.one 1 x1 hx1').2.2.1
 have hx57:Ext w5 w7:=hx6.own hg7 (fun k hk=>by injection hk;omega)
 have hK7:Bk (rt g5 w5 0) w7 0 a6 33 _:=Bk.new hA7 (by omega) (by unfold ixT;decide)
 have hC1:=(((hO2.cli 1 x1 hx1').ext hx24 0).stp hS5 (by simp;omega)).ext hx57 0
 refine Q1 ?_
 refine Q24 Ar [EW,⟨#[97]⟩] T.s61 ?_
 intro p8 w8 ho8 hx8 hz8
 have hs1:∀v∈([]:List Ver)++[y.v ((0+1:Nat):Int)],v.val.text.size≤2000:=fun v hv=>by
  simp only [List.nil_append,List.mem_singleton] at hv
  subst hv
  show y.val.text.size≤2000
  rw [y3];decide
 refine Q1 ?_;refine Q4 (hc:=Qp ((hH5.xt hx57 0).xt hx8 0) hP1 hE1 hx1' (by decide) ((hD5.stp (T:=[]) (Stq.of_ext hx57 0) (fun t ht=>by cases ht)).stp (T:=[]) (Stq.of_ext hx8 0) (fun t ht=>by cases ht)) (hC1.ext hx8 0) ho8.sl (by decide) (by decide) (by decide) (by decide) hs1) ?_;rintro _ w9 ⟨R9,r9,g9,rfl,e91,e92,e93,hS9,hH9,hW9⟩;refine Kc ?_
 obtain ⟨⟨r0,ok,rfl,hSn⟩,hD9⟩:=hW9
 have hK9:=(hK7.ext hx8 0).stp hS9 (by simp;omega)
 skip
 refine Q1 ?_;refine Q7 T.zero33 ?_;intro a10 w10 ha10 hA10 hx10 hs10
 skip
 refine Q1 ?_;refine Q5 T.z33 hA10 ?_;intro w11 hA11 hg11 hs11
 replace hA11:Blk w11.heap a10 33 (Aq.enc r9):=hA11
 have hx911:Ext w9 w11:=hx10.own hg11 (fun k hk=>by injection hk;omega)
 have hA7':=(hK9.ext hx911 0).blk
 have q5:r5.s=⟨#[79,75]⟩:=e52
 have q9:r9.s=⟨#[49]⟩:=by
  rw [e92]
  rcases DY (Int.le_refl _) hSn with ⟨_,_,_,h4,h5⟩|⟨h1,_⟩
  ·unfold Gp Dp
   rw [h4,h5]
   exact y3
  ·exact absurd ⟨y1,.inl y2⟩ h1
 have hH11:=hH9.xt hx911 0
 have bH:=hH11.hs.blk
 have hD11:=hD9.stp (T:=[]) (Stq.of_ext hx911 0) (fun t ht=>by cases ht)
 obtain ⟨⟨pa,ca,hMb,-⟩,-⟩:=hD11.mgr
 have bM:=hMb.blk
 obtain ⟨⟨F,hF,-⟩,-⟩:=hD11.sto
 repeat' (first|refine R1 ?_|(refine Q1 ?_;first|(refine Q35 (he:=q5) ?_)|(refine Q35 (he:=q9) ?_)|(refine Q4 (f:=14) (hc:=IC hH11.srv) ?_;rintro _ _ ⟨rfl,rfl⟩;refine Kc ?_)|(refine Q4 (f:=15) (hc:=GJ hF) ?_;rintro _ _ ⟨rfl,rfl⟩;refine Kc ?_)|(refine Q2 (hu:=by (first|exact T.f39_0|exact T.f33_1|exact T.f54_0)) ?_)|(refine Q3 (hu:=by (first|exact T.p37|exact T.p9|exact T.p49)) ?_))|refine R2 ?_|fail)
 refine Kr Tryz.results6 ?_
 exact ⟨congrArg Value.bool (decide_eq_true (by decide)),hx1.trans hH11.bs.ext⟩
set_option maxRecDepth 20000 in
theorem Ij {life later:Int} (hf1:AC life) (hf2:AC later) (hP:Pow w) (hE:CL w):Ctr Tryz.prog 5 [.int .i64 life,.int .i64 later] w (fun v w'=>v=.bool true∧Ext w w'):=by
 obtain ⟨N,hN⟩:∃N:Nat,1+life % 50=(N:Int):=⟨(1+life % 50).toNat,by omega⟩
 obtain ⟨K,hK⟩:∃K:Nat,later % 60=(K:Int):=⟨(later % 60).toNat,by omega⟩
 have hN1:1≤N∧N≤50:=by omega
 have hK1:K≤59:=by omega
 refine Ac Tryz.func5 Tryz.ntmps5 rfl rfl rfl ?_
 repeat' (first|refine R1 ?_|(refine Q1 ?_;first|(refine Q4 (f:=6) (hc:=PE hP hE) ?_;rintro _ w1 ⟨rfl,hx1⟩;refine Kc ?_)|(refine Q4 (f:=8) (hc:=JW) ?_;rintro _ w2 ⟨rfl,hx2⟩;refine Kc ?_))|refine R2 ?_|fail)
 refine Q1 ?_;refine Q4 (hc:=KE (each:=200) (nn:=2000) (j:=2) (key:=⟨#[107]⟩) (by decide) (by decide) (by decide) (by decide)) ?_;rintro _ w3 ⟨g3,ix,hb,sb,dk,m,k,lg,st,cs,rfl,hO3,hcs⟩;refine Kc ?_
 have hP2:Pow w2:=FD hP (hx1.trans hx2)
 have hE2:CL w2:=CL.ext hE (hx1.trans hx2)
 have hH3:=hO3.hse
 have hD3:=hO3.db
 obtain ⟨x0,hx0⟩:=Aj (xs:=cs) (k:=0) (by omega)
 obtain ⟨x1,hx1'⟩:=Aj (xs:=cs) (k:=1) (by omega)
 have hb0:=(hO3.con.one 0 x0 hx0).2.2.1
 have hb1:=(hO3.con.one 1 x1 hx1').2.2.1
 have hC03:=hO3.cli 0 x0 hx0
 have hC13:=hO3.cli 1 x1 hx1'
 repeat' (first|refine R1 ?_|(refine Q1 ?_;first|(refine Q15 Tryz.underlying23 (t:=23) ?_)|(refine Q4 (f:=9) (hc:=LY (by decide) (by decide) hf1) ?_;rintro _ _ ⟨rfl,rfl⟩;refine Kc ?_)|(refine Q4 (f:=9) (hc:=LY (by decide) (by decide) hf2) ?_;rintro _ _ ⟨rfl,rfl⟩;refine Kc ?_))|refine R2 ?_|fail)
 rw [hN,hK]
 have hfN:AC (N:Int):=by unfold AC;omega
 have hsN:(CK (N:Int)).size≤4096:=Nat.le_trans (Ex hfN) (by decide)
 repeat' (refine Q1 ?_;(refine Q4 (f:=11) (hc:=Ck hfN) ?_;rintro _ w4 ⟨rfl,hx4⟩;refine Kc ?_))
 refine Q1 ?_
 refine Q24 Ar [Dh,⟨#[107]⟩,CK (N:Int),⟨#[120]⟩] T.s61 (hpos:=by (simp)) (hs24:=by (simp)) ?_
 intro p5 w5 ho5 hx5 hz5
 have hx35:=hx4.trans hx5
 refine Q1 ?_;refine Q4 (hc:=Rc (e:=(N:Int)) (hH3.xt hx35 0) hP2 hE2 hx0 (by decide) (hD3.stp (T:=[]) (Stq.of_ext hx35 0) (fun t ht=>by cases ht)) (hC03.ext hx35 0) ho5.sl (by decide) (by decide) (by decide) (by decide) (by decide) (by decide) hsN (by decide) (by decide) ⟨hfN,rfl⟩ (by omega) (by omega)) ?_;rintro _ w6 ⟨R6,r6,g6,rfl,-,-,-,hS6,hH6,hW6⟩;refine Kc ?_
 obtain ⟨rfl,y,y1,y2,y3,hD6⟩:=hW6
 have hC06:=(hC03.ext hx35 0).stp hS6 (by simp;omega)
 have hC16:=(hC13.ext hx35 0).stp hS6 (by simp;omega)
 repeat' (refine R1 ?_)
 refine Q1 ?_
 refine Q24 Ar [El] T.s61 ?_
 intro p7 w7 ho7 hx7 hz7
 refine Q1 ?_;refine Q4 (hc:=Rb (hH6.xt hx7 0) hP2 hE2 hx1' (by decide) (hD6.stp (T:=[]) (Stq.of_ext hx7 0) (fun t ht=>by cases ht)) (hC16.ext hx7 0) ho7.sl (by decide)) ?_;rintro _ w8 ⟨R8,r8,g8,rfl,-,-,-,hS8,hH8,hW8⟩;refine Kc ?_
 obtain ⟨rfl,t,mp,hD8,hp8,hC18⟩:=hW8
 have hC08:=(hC06.ext hx7 0).stp hS8 (by simp;omega)
 have b8:=hH8.hs.blk
 repeat' (first|refine R1 ?_|(refine Q1 ?_;first|(apply Zi;exact rfl;exact Ri _ _;exact rfl)|(refine Q2 (hu:=T.f39_0) ?_)|(refine Q3 (hu:=T.p37) ?_))|refine R2 ?_|fail)
 refine Q1 ?_
 refine Q12 Cr ⟨5,0,K,none,0,0⟩ T.s67 ?_
 intro p9 w9 hp9 hs9 hb9 hx9 hz9
 have hD9:=hD8.stp (T:=[]) (Stq.of_ext hx9 0) (fun t ht=>by cases ht)
 refine Q1 ?_;refine Q4 (hc:=VI (ix:=ix) (hH8.xt hx9 0).srv hD9.mgr (by decide) (by omega) hs9) ?_;rintro _ w10 ⟨g10,hS10,hV10,hM10⟩;refine Kc ?_
 have hX10:Stq ix [4,8] g8 g10 w8 w10:=(Stq.of_ext hx9 0).trans hS10
 obtain ⟨ou8,hcon8⟩:=hH8.con
 have hH10:Hse w2 g10 w10 ix hb sb dk m k (200:Nat) (2000:Nat) (0+(K:Int)) cs (0+4+4):=⟨hH8.bs.stp hX10 (by decide),hH8.hs.stp hX10 (by decide),hV10,ou8,hcon8.stp hX10 (fun t ht=>by simp at ht;omega)⟩
 obtain ⟨sg9,sv9,ds9,hK9⟩:=hD9.kep
 have hD10:=(⟨hM10,hD9.sto.stp hS10 (by decide),sg9,sv9,ds9,hK9.stp hS10 (by decide) (by decide) (by decide)⟩:Db g10 w10 ix st k m lg dk ⟨#[107]⟩ _ _ _ (0+(K:Int)) _ _ _)
 have hp10:=hp8.stp hX10 (by decide)
 have hC010:=hC08.stp hX10 (by simp;omega)
 have hC110:=hC18.stp hX10 (by simp;omega)
 repeat' (refine R1 ?_)
 refine Q1 ?_
 refine Q24 Ar [EW,⟨#[107]⟩] T.s61 ?_
 intro p11 w11 ho11 hx11 hz11
 have hs1:∀v∈([]:List Ver)++[y.v ((0+1:Nat):Int)],v.val.text.size≤2000:=fun v hv=>by
  simp only [List.nil_append,List.mem_singleton] at hv
  subst hv
  show y.val.text.size≤2000
  rw [y3];decide
 have hs2:∀v∈([]:List Ver)++[y.v ((0+1:Nat):Int)],0≤v.exp∧v.exp≤1099511627776:=fun v hv=>by
  simp only [List.nil_append,List.mem_singleton] at hv
  subst hv
  show 0≤y.exp∧y.exp≤1099511627776
  rw [y2];omega
 refine Q1 ?_;refine Q4 (hc:=Qp (hH10.xt hx11 0) hP2 hE2 hx0 (by decide) (hD10.stp (T:=[]) (Stq.of_ext hx11 0) (fun t ht=>by cases ht)) (hC010.ext hx11 0) ho11.sl (by simp) (by decide) (by omega) (by omega) hs1) ?_;rintro _ w12 ⟨R12,r12,g12,rfl,e121,e122,e123,hS12,hH12,hW12⟩;refine Kc ?_
 obtain ⟨⟨r0,ok,rfl,hSn12⟩,hD12⟩:=hW12
 have hp12:=(hp10.ext hx11 0).stp hS12 (by simp;omega)
 have hC012:=(hC010.ext hx11 0).stp hS12 (by simp;omega)
 have hC112:=(hC110.ext hx11 0).stp hS12 (by simp;omega)
 repeat' (first|refine R1 ?_|(refine Q1 ?_;(refine Q41 (TZ _) ?_))|refine R2 ?_|fail)
 refine Q1 ?_
 refine Q24 Ar [CQ,⟨#[107]⟩] T.s61 ?_
 intro p13 w13 ho13 hx13 hz13
 refine Q1 ?_;refine Q4 (hc:=Vn (hH12.xt hx13 0) hP2 hE2 hx0 (by decide) (hD12.stp (T:=[]) (Stq.of_ext hx13 0) (fun t ht=>by cases ht)) (hC012.ext hx13 0) ho13.sl (by simp) (by decide) (by omega) (by omega) hs2) ?_;rintro _ w14 ⟨R14,r14,g14,rfl,e141,e142,e143,hS14,hH14,hW14⟩;refine Kc ?_
 obtain ⟨⟨r1,ok1,rfl,hSn14⟩,hD14⟩:=hW14
 have hp14:=(hp12.ext hx13 0).stp hS14 (by simp;omega)
 have hC114:=(hC112.ext hx13 0).stp hS14 (by simp;omega)
 skip
 refine Q1 ?_;refine Q7 T.zero33 ?_;intro a15 w15 ha15 hA15 hx15 hs15
 skip
 refine Q1 ?_;refine Q5 T.z33 hA15 ?_;intro w16 hA16 hg16 hs16
 replace hA16:Blk w16.heap a15 33 (Aq.enc r14):=hA16
 have hx1416:Ext w14 w16:=hx15.own hg16 (fun k hk=>by injection hk;omega)
 have hal:∀c:Int,Eh (y.v ((0+1:Nat):Int)) c ↔ c<N:=fun c=>⟨fun h=>by
  rcases h.exp with h|h
  ·replace h:y.exp=0:=h
   omega
  ·replace h:c<y.exp:=h
   omega,fun h=>⟨y1,.inr (show c<y.exp by omega)⟩⟩
 have q12:r12.kind=if K<N then 3 else 4:=by
  rw [e121]
  rcases DY (Int.le_refl _) hSn12 with ⟨h1,_,_,h4,_⟩|⟨h1,_,h3⟩
  ·rw [hal] at h1
   rw [if_pos (by omega)]
   unfold Gp Dp
   rw [h4]
   rfl
  ·rw [hal] at h1
   rw [if_neg (by omega),h3]
   rfl
 have q14:r14.n=if K<N then (N:Int) - K else -2:=by
  rw [e143]
  rcases DY (Int.le_refl _) hSn14 with ⟨h1,h2,h3,_,_⟩|⟨h1,h2,h3⟩
  ·rw [hal] at h1
   rw [if_pos (by omega)]
   show EK r1 ok1 (0+(K:Int))=_
   unfold EK
   rw [h2,if_neg (by decide),h3]
   show (if y.exp=0 then -1 else y.exp - (0+(K:Int)))=_
   rw [if_neg (by omega)]
   omega
  ·rw [hal] at h1
   rw [if_neg (by omega)]
   show EK r1 ok1 (0+(K:Int))=_
   unfold EK
   rw [h2,if_pos rfl]
 have hH16:=hH14.xt hx1416 0
 have hD16:=hD14.stp (T:=[]) (Stq.of_ext hx1416 0) (fun t ht=>by cases ht)
 have hp16:=hp14.ext hx1416 0
 have hC116:=hC114.ext hx1416 0
 have b16:=hH16.hs.blk
 by_cases hKN:K<N
 ·rw [if_pos hKN] at q12 q14
  repeat' (first|refine R1 ?_|(refine Q1 ?_;first|(apply Zi;exact rfl;exact GX _;exact rfl)|(refine Q2 (hu:=by (first|exact T.f39_0|exact T.f33_2)) ?_)|(refine Q3 (hu:=by (first|exact T.p37|exact T.p3)) ?_)|refine Q69 Tryz.underlying4 ?_)|refine R2 ?_|((fail_if_success (refine Q1 ?_));apply Zb;exact rfl;exact rfl;all_goals (intro h;try (exfalso;omega)))|((fail_if_success (refine Q1 ?_));apply ZW;exact rfl;exact rfl;all_goals intro h)|fail)
  ·exfalso
   rw [q12] at h
   simp at h
   omega
  refine Q1 ?_
  refine Q12 Cr ⟨6,0,0,none,0,0⟩ T.s67 ?_
  intro p17 w17 hp17 hs17 hb17 hx17 hz17
  have hD17:=hD16.stp (T:=[]) (Stq.of_ext hx17 0) (fun t ht=>by cases ht)
  have hH17:=hH16.xt hx17 0
  refine Q1 ?_;refine Q4 (hc:=JO (ix:=ix) hH17.srv hD17.mgr hD17.sto (fun a ha=>by simp at ha;subst ha;exact show ((0:Nat):Int)≤1 by decide) (by decide) hs17) ?_;rintro _ w18 ⟨g18,mk,jj,hS18,hM18,hmk,hpr,hT18⟩;refine Kc ?_
  have hj0:jj=0:=by
   have hlo:MM ([]++[(⟨t,((0+1:Nat):Int),0,false,mp⟩:TG)]) (0+(K:Int))=0:=by
    show min (0+(K:Int)) 0=0
    omega
   have hm1:(mk:Int)=1:=hmk
   rw [hlo] at hpr
   obtain ⟨nn,⟨u1,_,u3⟩,hcase⟩:=hpr.is
   have hn1:nn=1:=by
    rcases Nat.eq_zero_or_pos nn with e|e
    ·have:=u3 0 (y.v ((0+1:Nat):Int)) (by omega) rfl
     have:(mk:Int)<1:=this
     omega
    ·simp only [List.nil_append,List.length_cons,List.length_nil] at u1
     omega
   subst hn1
   rcases hcase with ⟨_,h2⟩|⟨h1,_⟩
   ·exact absurd ((hal 0).2 (by omega)) (h2 _ (by decide) rfl)
   ·omega
  subst hj0
  rw [List.drop_zero] at hT18
  obtain ⟨sg17,sv17,ds17,hK17⟩:=hD17.kep
  have hD18:=(⟨hM18,hT18,sg17,sv17,ds17,hK17.stp hS18 (by decide) (by decide) (by decide)⟩:Db g18 w18 ix st k m lg dk ⟨#[107]⟩ _ _ _ (0+(K:Int)) _ _ _)
  have hX18:Stq ix [3] _ g18 w16 w18:=(Stq.of_ext hx17 0).trans hS18
  have hH18:=hH16.stp hX18 (fun t ht=>by simp at ht;omega)
  have hp18:=hp16.stp hX18 (by decide)
  have hC118:=hC116.stp hX18 (by simp)
  repeat' (refine R1 ?_)
  refine Q1 ?_
  refine Q24 Ar [EW,⟨#[107]⟩] T.s61 ?_
  intro p19 w19 ho19 hx19 hz19
  refine Q1 ?_;refine Q4 (hc:=Nn (u:=0) (a:=⟨t,((0+1:Nat):Int),0,false,mp⟩) (hH18.xt hx19 0) hP2 hE2 hx1' (by decide) (hD18.stp (T:=[]) (Stq.of_ext hx19 0) (fun t ht=>by cases ht)) rfl rfl (hp18.ext hx19 0) (hC118.ext hx19 0) ho19.sl (by decide) (show (0:Int)≤0 by decide) (show (0:Int)≤1099511627776 by decide) hs1) ?_;rintro _ w20 ⟨R20,r20,g20,rfl,e201,e202,e203,hS20,hH20,hW20⟩;refine Kc ?_
  obtain ⟨⟨r2,ok2,rfl,hSn20⟩,hD20⟩:=hW20
  have hp20:=(hp18.ext hx19 0).stp hS20 (by simp;omega)
  have hC120:=(hC118.ext hx19 0).stp hS20 (by simp;omega)
  have q20:r20.s=⟨#[120]⟩:=by
   rw [e202]
   rcases DY (Int.le_refl _) hSn20 with ⟨_,_,_,h4,h5⟩|⟨h1,_⟩
   ·unfold Gp Dp
    rw [h4,h5]
    exact y3
   ·exact absurd ((hal 0).2 (by omega)) h1
  repeat' (refine Q1 ?_;first|refine Q19 ?_|(refine Q41 (WW _) ?_)|(refine Q35 (he:=q20) ?_))
  refine Q1 ?_
  refine Q24 Ar [CQ,⟨#[107]⟩] T.s61 ?_
  intro p21 w21 ho21 hx21 hz21
  refine Q1 ?_;refine Q4 (hc:=Np (u:=0) (a:=⟨t,((0+1:Nat):Int),0,false,mp⟩) (hH20.xt hx21 0) hP2 hE2 hx1' (by decide) (hD20.stp (T:=[]) (Stq.of_ext hx21 0) (fun t ht=>by cases ht)) rfl rfl (hp20.ext hx21 0) (hC120.ext hx21 0) ho21.sl (by decide) (show (0:Int)≤0 by decide) (show (0:Int)≤1099511627776 by decide) hs2) ?_;rintro _ w22 ⟨R22,r22,g22,rfl,e221,e222,e223,hS22,hH22,hW22⟩;refine Kc ?_
  obtain ⟨⟨r3,ok3,rfl,hSn22⟩,hD22⟩:=hW22
  have q22:r22.n=(N:Int):=by
   rw [e223]
   rcases DY (Int.le_refl _) hSn22 with ⟨h1,h2,h3,_,_⟩|⟨h1,_⟩
   ·show EK r3 ok3 0=_
    unfold EK
    rw [h2,if_neg (by decide),h3]
    show (if y.exp=0 then -1 else y.exp - 0)=_
    rw [if_neg (by omega)]
    omega
   ·exact absurd ((hal 0).2 (by omega)) h1
  repeat' (first|refine R1 ?_|(refine Q1 ?_;(refine Q41 (WV _) ?_))|refine R2 ?_|fail)
  refine Kr Tryz.results5 ?_
  exact ⟨congrArg Value.bool (decide_eq_true q22),(hx1.trans hx2).trans hH22.bs.ext⟩
 ·rw [if_neg hKN] at q12 q14
  repeat' (first|refine R1 ?_|(refine Q1 ?_;first|(apply Zi;exact rfl;exact GX _;exact rfl)|(refine Q2 (hu:=by (first|exact T.f39_0|exact T.f33_2)) ?_)|(refine Q3 (hu:=by (first|exact T.p37|exact T.p3)) ?_)|refine Q69 Tryz.underlying4 ?_)|refine R2 ?_|(apply Za;exact rfl;all_goals (intro h;try (exfalso;omega)))|((fail_if_success (refine Q1 ?_));apply Zb;exact rfl;exact rfl;all_goals (intro h;try (exfalso;omega)))|((fail_if_success (refine Q1 ?_));apply ZW;exact rfl;exact rfl;all_goals intro h)|fail)
  ·exfalso
   rw [q12] at h
   simp at h
   omega
  refine Q1 ?_
  refine Q12 Cr ⟨6,0,0,none,0,0⟩ T.s67 ?_
  intro p17 w17 hp17 hs17 hb17 hx17 hz17
  have hD17:=hD16.stp (T:=[]) (Stq.of_ext hx17 0) (fun t ht=>by cases ht)
  have hH17:=hH16.xt hx17 0
  refine Q1 ?_;refine Q4 (hc:=JO (ix:=ix) hH17.srv hD17.mgr hD17.sto (fun a ha=>by simp at ha;subst ha;exact show ((0:Nat):Int)≤1 by decide) (by decide) hs17) ?_;rintro _ w18 ⟨g18,mk,jj,hS18,hM18,hmk,hpr,hT18⟩;refine Kc ?_
  have hj0:jj=0:=by
   have hlo:MM ([]++[(⟨t,((0+1:Nat):Int),0,false,mp⟩:TG)]) (0+(K:Int))=0:=by
    show min (0+(K:Int)) 0=0
    omega
   have hm1:(mk:Int)=1:=hmk
   rw [hlo] at hpr
   obtain ⟨nn,⟨u1,_,u3⟩,hcase⟩:=hpr.is
   have hn1:nn=1:=by
    rcases Nat.eq_zero_or_pos nn with e|e
    ·have:=u3 0 (y.v ((0+1:Nat):Int)) (by omega) rfl
     have:(mk:Int)<1:=this
     omega
    ·simp only [List.nil_append,List.length_cons,List.length_nil] at u1
     omega
   subst hn1
   rcases hcase with ⟨_,h2⟩|⟨h1,_⟩
   ·exact absurd ((hal 0).2 (by omega)) (h2 _ (by decide) rfl)
   ·omega
  subst hj0
  rw [List.drop_zero] at hT18
  obtain ⟨sg17,sv17,ds17,hK17⟩:=hD17.kep
  have hD18:=(⟨hM18,hT18,sg17,sv17,ds17,hK17.stp hS18 (by decide) (by decide) (by decide)⟩:Db g18 w18 ix st k m lg dk ⟨#[107]⟩ _ _ _ (0+(K:Int)) _ _ _)
  have hX18:Stq ix [3] _ g18 w16 w18:=(Stq.of_ext hx17 0).trans hS18
  have hH18:=hH16.stp hX18 (fun t ht=>by simp at ht;omega)
  have hp18:=hp16.stp hX18 (by decide)
  have hC118:=hC116.stp hX18 (by simp)
  repeat' (refine R1 ?_)
  refine Q1 ?_
  refine Q24 Ar [EW,⟨#[107]⟩] T.s61 ?_
  intro p19 w19 ho19 hx19 hz19
  refine Q1 ?_;refine Q4 (hc:=Nn (u:=0) (a:=⟨t,((0+1:Nat):Int),0,false,mp⟩) (hH18.xt hx19 0) hP2 hE2 hx1' (by decide) (hD18.stp (T:=[]) (Stq.of_ext hx19 0) (fun t ht=>by cases ht)) rfl rfl (hp18.ext hx19 0) (hC118.ext hx19 0) ho19.sl (by decide) (show (0:Int)≤0 by decide) (show (0:Int)≤1099511627776 by decide) hs1) ?_;rintro _ w20 ⟨R20,r20,g20,rfl,e201,e202,e203,hS20,hH20,hW20⟩;refine Kc ?_
  obtain ⟨⟨r2,ok2,rfl,hSn20⟩,hD20⟩:=hW20
  have hp20:=(hp18.ext hx19 0).stp hS20 (by simp;omega)
  have hC120:=(hC118.ext hx19 0).stp hS20 (by simp;omega)
  have q20:r20.s=⟨#[120]⟩:=by
   rw [e202]
   rcases DY (Int.le_refl _) hSn20 with ⟨_,_,_,h4,h5⟩|⟨h1,_⟩
   ·unfold Gp Dp
    rw [h4,h5]
    exact y3
   ·exact absurd ((hal 0).2 (by omega)) h1
  repeat' (refine Q1 ?_;first|refine Q19 ?_|(refine Q41 (WW _) ?_)|(refine Q35 (he:=q20) ?_))
  refine Q1 ?_
  refine Q24 Ar [CQ,⟨#[107]⟩] T.s61 ?_
  intro p21 w21 ho21 hx21 hz21
  refine Q1 ?_;refine Q4 (hc:=Np (u:=0) (a:=⟨t,((0+1:Nat):Int),0,false,mp⟩) (hH20.xt hx21 0) hP2 hE2 hx1' (by decide) (hD20.stp (T:=[]) (Stq.of_ext hx21 0) (fun t ht=>by cases ht)) rfl rfl (hp20.ext hx21 0) (hC120.ext hx21 0) ho21.sl (by decide) (show (0:Int)≤0 by decide) (show (0:Int)≤1099511627776 by decide) hs2) ?_;rintro _ w22 ⟨R22,r22,g22,rfl,e221,e222,e223,hS22,hH22,hW22⟩;refine Kc ?_
  obtain ⟨⟨r3,ok3,rfl,hSn22⟩,hD22⟩:=hW22
  have q22:r22.n=(N:Int):=by
   rw [e223]
   rcases DY (Int.le_refl _) hSn22 with ⟨h1,h2,h3,_,_⟩|⟨h1,_⟩
   ·show EK r3 ok3 0=_
    unfold EK
    rw [h2,if_neg (by decide),h3]
    show (if y.exp=0 then -1 else y.exp - 0)=_
    rw [if_neg (by omega)]
    omega
   ·exact absurd ((hal 0).2 (by omega)) h1
  repeat' (first|refine R1 ?_|(refine Q1 ?_;(refine Q41 (WV _) ?_))|refine R2 ?_|fail)
  refine Kr Tryz.results5 ?_
  exact ⟨congrArg Value.bool (decide_eq_true q22),(hx1.trans hx2).trans hH22.bs.ext⟩
end Go.Proofs.YtkcolpfanmdmiaaGreatDoor
