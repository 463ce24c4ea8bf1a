/- Texts of this proof laid together. -/
import Derived.Test.YtkcolpfanmdmiaaGreatDoorVM20
set_option maxHeartbeats 8000000
open Go Go.V Go.Proofs.YtkcolpfanmdmiaaGreatDoor
variable {key s : ByteArray} {E : Env} {clk log slot : Int} {cs : List Cn} {lasts : List Int} {ds : List Sec} {vs : List Ver} {dk each ix k last lg m n nn sb so st used : Nat} {g : Nat → Nat} {P : Program} {W0 w : World}
namespace Go.Proofs.YtkcolpfanmdmiaaGreatDoor
open Go.V Go.RowKit Go.Conc
variable {kp d dc : Nat} {dp : Option Addr} {ts : List TG} {mark : Nat}
set_option maxRecDepth 20000 in
theorem PO (hV:Srv g w sb m kp dk slot log clk lasts cs n) (hM:AL g w m st kp clk ts) (hS:Cf g w st ix key vs last mark) (hK:BX g w kp lg d 80 nn used last (.pointer (some (adr (bx so) 0))) ds) (hso:Bk g w 6 so 164 (slC d 0)) (hv:∃v,Gd vs last clk v) (hk:key.size≤256) (ht:∀y∈vs,y.val.text.size≤2000) (hfit:80≤ds.length) (hD:Sl w.heap Cr dp dc [⟨7,0,0,none,0,0⟩]) :
  Ctr Tryz.prog 12 [.pointer (some (adr (bx sb) 0)),.slice dp 1 dc] w (fun _ w'=>∃g' ds',Stq ix [1,2,6] g g' w w'∧BX g' w' kp lg d 80 nn 0 last (.pointer (some (adr (bx so) 0))) ds'∧ds'.length=ds.length):=by
 obtain ⟨lf,tq,lp,lc,cp,cc,bf,k1,k2,k3,k4,k5,k6⟩:=hV.ex
 have bb1:=k1.blk
 refine Ac Tryz.func12 Tryz.ntmps12 rfl rfl rfl ?_
 repeat' (first|refine R1 ?_|(refine Q1 ?_;first|(refine Q15 Tryz.underlying37 (t:=37) ?_)|(refine Q15 Tryz.underlying68 (t:=68) ?_)|(refine Q2 (hu:=by (first|exact T.f72_1|exact T.f43_0|exact T.f43_2|exact T.f43_4|exact T.f72_5|exact T.f43_1|exact T.f82_0|exact T.f82_1|exact T.f54_0|exact T.f72_2)) ?_)|(refine Q3 (hu:=by (first|exact T.p68|exact T.p3|exact T.p41|exact T.p70|exact T.p46|exact T.p79|exact T.p49)) ?_)|(refine Q31 (hu:=by (first|exact T.p68|exact T.p3|exact T.p41|exact T.p70|exact T.p46|exact T.p79|exact T.p49)) ?_)|(refine Q44 (hu:=by (first|exact T.p68|exact T.p3|exact T.p41|exact T.p70|exact T.p46|exact T.p79|exact T.p49)) ?_)|(refine Q9 (hu:=by (first|exact T.p68|exact T.p3|exact T.p41|exact T.p70|exact T.p46|exact T.p79|exact T.p49)) ?_)|(refine Q6 (hu:=T.s67) ?_)|refine Q13 T.s67 ?_|refine Q25 T.s67 ?_|refine Q11 T.a43 ?_|refine Q14 T.a43 ?_|(refine Bn T.a43 ?_)|refine Q34 T.a43 ?_)|apply ZF|apply ZK|apply Zo|apply Zbn|apply Zbm|refine R2 ?_|(apply Za;exact rfl;all_goals (intro h;try (exfalso;omega)))|(apply Zy;exact rfl;all_goals intro h)|((fail_if_success (refine Q1 ?_));apply Zb;exact rfl;exact rfl;all_goals (intro h;try (exfalso;omega)))|((fail_if_success (refine Q1 ?_));apply ZW;exact rfl;exact rfl;all_goals intro h)|refine Zf 1 [] [0,1,2,3,4,5,6] mixed (by decide +kernel) ?_|refine Zf 1 [] [0,1,2,3,4,5,6,7,8,9,10,11,12,13,14,15,16,17,18,19,20,21] mixed (by decide +kernel) ?_|fail)
 all_goals try (exfalso;simp only at *;omega)
 refine Zm ?_
 repeat' (first|refine R1 ?_|(refine Q1 ?_;first|(refine Q10 T.s67 hD.ok (q:=0) (hj:=rfl) (h1:=by (simp)) ?_)|(refine Q14 T.a43 (q:=0) (e:=Cr) (hs:=hD) (hq:=rfl) ?_)|(refine Q2 (hu:=by (first|exact T.f72_1|exact T.f43_0|exact T.f43_2|exact T.f43_4|exact T.f72_5|exact T.f43_1|exact T.f82_0|exact T.f82_1|exact T.f54_0|exact T.f72_2)) ?_)|(refine Q3 (hu:=by (first|exact T.p68|exact T.p3|exact T.p41|exact T.p70|exact T.p46|exact T.p79|exact T.p49)) ?_)|(refine Q31 (hu:=by (first|exact T.p68|exact T.p3|exact T.p41|exact T.p70|exact T.p46|exact T.p79|exact T.p49)) ?_)|(refine Q44 (hu:=by (first|exact T.p68|exact T.p3|exact T.p41|exact T.p70|exact T.p46|exact T.p79|exact T.p49)) ?_)|(refine Q9 (hu:=by (first|exact T.p68|exact T.p3|exact T.p41|exact T.p70|exact T.p46|exact T.p79|exact T.p49)) ?_)|(refine Q6 (hu:=T.s67) ?_)|refine Q13 T.s67 ?_|refine Q25 T.s67 ?_|refine Q11 T.a43 ?_|refine Q14 T.a43 ?_|(refine Bn T.a43 ?_)|refine Q34 T.a43 ?_)|refine R2 ?_|(apply Za;exact rfl;all_goals (intro h;try (exfalso;omega)))|(apply Zy;exact rfl;all_goals intro h)|((fail_if_success (refine Q1 ?_));apply Zb;exact rfl;exact rfl;all_goals (intro h;try (exfalso;omega)))|((fail_if_success (refine Q1 ?_));apply ZW;exact rfl;exact rfl;all_goals intro h)|refine Zf 1 [] [0,1,2,3,4,5,6] mixed (by decide +kernel) ?_|refine Zf 1 [] [0,1,2,3,4,5,6,7,8,9,10,11,12,13,14,15,16,17,18,19,20,21] mixed (by decide +kernel) ?_|fail)
 all_goals try (exfalso;simp only at *;omega)
 refine Q1 ?_;refine Q7 T.zero43 ?_;intro a7 w1 ha7 hA7 hx1 hs1
 have bb2:=bb1.ext hx1
 repeat' (first|refine R1 ?_|(refine Q1 ?_;first|(refine Q2 (hu:=by (first|exact T.f72_1|exact T.f43_0|exact T.f43_2|exact T.f43_4|exact T.f72_5|exact T.f43_1|exact T.f82_0|exact T.f82_1|exact T.f54_0|exact T.f72_2)) ?_)|(refine Q3 (hu:=by (first|exact T.p68|exact T.p3|exact T.p41|exact T.p70|exact T.p46|exact T.p79|exact T.p49)) ?_)|(refine Q31 (hu:=by (first|exact T.p68|exact T.p3|exact T.p41|exact T.p70|exact T.p46|exact T.p79|exact T.p49)) ?_)|(refine Q44 (hu:=by (first|exact T.p68|exact T.p3|exact T.p41|exact T.p70|exact T.p46|exact T.p79|exact T.p49)) ?_)|(refine Q9 (hu:=by (first|exact T.p68|exact T.p3|exact T.p41|exact T.p70|exact T.p46|exact T.p79|exact T.p49)) ?_)|(refine Q6 (hu:=T.s67) ?_)|refine Q13 T.s67 ?_|refine Q25 T.s67 ?_|refine Q11 T.a43 ?_|refine Q14 T.a43 ?_|(refine Bn T.a43 ?_)|refine Q34 T.a43 ?_)|refine R2 ?_|(apply Za;exact rfl;all_goals (intro h;try (exfalso;omega)))|(apply Zy;exact rfl;all_goals intro h)|((fail_if_success (refine Q1 ?_));apply Zb;exact rfl;exact rfl;all_goals (intro h;try (exfalso;omega)))|((fail_if_success (refine Q1 ?_));apply ZW;exact rfl;exact rfl;all_goals intro h)|refine Zf 1 [] [0,1,2,3,4,5,6] mixed (by decide +kernel) ?_|refine Zf 1 [] [0,1,2,3,4,5,6,7,8,9,10,11,12,13,14,15,16,17,18,19,20,21] mixed (by decide +kernel) ?_|fail)
 refine Q1 ?_;refine Q5 T.z43 hA7 ?_;intro w2 hA7 hg2 hs2
 have hx2:Ext w w2:=hx1.own hg2 (fun k hk=>by injection hk;omega)
 replace bb2:=bb1.ext hx2
 have hV2:=hV.ext hx2 0
 replace hA7:Blk w2.heap a7 43 [.int .i64 7,.int .i64 0,.int .i64 0,.slice none 0 0,.slice none 0 0]:=hA7
 have b4:=k4.blk.ext hx2
 have hm0:=hM
 obtain ⟨⟨pa,ca,hm1,-⟩,-⟩:=hm0
 have bm:=hm1.blk.ext hx2
 repeat' (first|refine R1 ?_|(refine Q1 ?_;first|(refine Q15 Tryz.underlying70 (t:=70) ?_)|(refine Q2 (hu:=by (first|exact T.f72_1|exact T.f43_0|exact T.f43_2|exact T.f43_4|exact T.f72_5|exact T.f43_1|exact T.f82_0|exact T.f82_1|exact T.f54_0|exact T.f72_2)) ?_)|(refine Q3 (hu:=by (first|exact T.p68|exact T.p3|exact T.p41|exact T.p70|exact T.p46|exact T.p79|exact T.p49)) ?_)|(refine Q31 (hu:=by (first|exact T.p68|exact T.p3|exact T.p41|exact T.p70|exact T.p46|exact T.p79|exact T.p49)) ?_)|(refine Q44 (hu:=by (first|exact T.p68|exact T.p3|exact T.p41|exact T.p70|exact T.p46|exact T.p79|exact T.p49)) ?_)|(refine Q9 (hu:=by (first|exact T.p68|exact T.p3|exact T.p41|exact T.p70|exact T.p46|exact T.p79|exact T.p49)) ?_)|(refine Q6 (hu:=T.s67) ?_)|refine Q13 T.s67 ?_|refine Q25 T.s67 ?_|refine Q11 T.a43 ?_|refine Q14 T.a43 ?_|(refine Bn T.a43 ?_)|refine Q34 T.a43 ?_)|refine R2 ?_|(apply Za;exact rfl;all_goals (intro h;try (exfalso;omega)))|(apply Zy;exact rfl;all_goals intro h)|((fail_if_success (refine Q1 ?_));apply Zb;exact rfl;exact rfl;all_goals (intro h;try (exfalso;omega)))|((fail_if_success (refine Q1 ?_));apply ZW;exact rfl;exact rfl;all_goals intro h)|fail)
 all_goals try (exfalso;simp only at *;omega)
 refine Zl 2 [] (.node [0,1,2,7,8,9,17,18,19,20] (.alt 3 (.node [4,5,6] (.alt 10 (.node [11,12] (.alt 13 (.leaf [14,15,16,21]) .stop)) .stop)) (.alt 10 (.node [11,12] (.alt 3 (.node [4,5,6] (.alt 13 (.leaf [14,15,16,21]) .stop)) (.alt 13 (.node [14,15,16] (.alt 3 (.leaf [4,5,6,21]) .stop)) .stop))) .stop))) mixed (by decide +kernel) ?_
 have hx3:Ext w w2.drew:=Ext.drew hx2
 have hx23:Ext w2 w2.drew:=Ext.drew (Ext.rfl' (w:=w2))
 have b43:=b4.ext hx23
 have bm3:=bm.ext hx23
 have bs3:=bb2.ext hx23
 repeat' (first|refine R1 ?_|(refine Q1 ?_;first|(refine Q2 (hu:=by (first|exact T.f72_1|exact T.f43_0|exact T.f43_2|exact T.f43_4|exact T.f72_5|exact T.f43_1|exact T.f82_0|exact T.f82_1|exact T.f54_0|exact T.f72_2)) ?_)|(refine Q3 (hu:=by (first|exact T.p68|exact T.p3|exact T.p41|exact T.p70|exact T.p46|exact T.p79|exact T.p49)) ?_)|(refine Q31 (hu:=by (first|exact T.p68|exact T.p3|exact T.p41|exact T.p70|exact T.p46|exact T.p79|exact T.p49)) ?_)|(refine Q44 (hu:=by (first|exact T.p68|exact T.p3|exact T.p41|exact T.p70|exact T.p46|exact T.p79|exact T.p49)) ?_)|(refine Q9 (hu:=by (first|exact T.p68|exact T.p3|exact T.p41|exact T.p70|exact T.p46|exact T.p79|exact T.p49)) ?_)|(refine Q6 (hu:=T.s67) ?_)|refine Q13 T.s67 ?_|refine Q25 T.s67 ?_|refine Q11 T.a43 ?_|refine Q14 T.a43 ?_|(refine Bn T.a43 ?_)|refine Q34 T.a43 ?_)|(refine Zj ?_)|(refine Zp ?_)|(apply Zv)|refine R2 ?_|(exact Zq)|(apply Za;exact rfl;all_goals (intro h;try (exfalso;omega)))|(apply Zy;exact rfl;all_goals intro h)|((fail_if_success (refine Q1 ?_));apply Zb;exact rfl;exact rfl;all_goals (intro h;try (exfalso;omega)))|((fail_if_success (refine Q1 ?_));apply ZW;exact rfl;exact rfl;all_goals intro h)|fail)
 all_goals
  refine Q1 ?_;refine Q4 (hc:=FI (ix:=ix) (hK.ext hx3 0) (hso.ext hx3 0) (hS.ext hx3 0) hv hk ht hfit) ?_;rintro _ w4 ⟨rfl,g4,ds4,hS4,hK4,hl4⟩;refine Kc ?_
  repeat' (first|refine R1 ?_|(refine Q1 ?_;first|(refine Q2 (hu:=by (first|exact T.f72_1|exact T.f43_0|exact T.f43_2|exact T.f43_4|exact T.f72_5|exact T.f43_1|exact T.f82_0|exact T.f82_1|exact T.f54_0|exact T.f72_2)) ?_)|(refine Q3 (hu:=by (first|exact T.p68|exact T.p3|exact T.p41|exact T.p70|exact T.p46|exact T.p79|exact T.p49)) ?_)|(refine Q31 (hu:=by (first|exact T.p68|exact T.p3|exact T.p41|exact T.p70|exact T.p46|exact T.p79|exact T.p49)) ?_)|(refine Q44 (hu:=by (first|exact T.p68|exact T.p3|exact T.p41|exact T.p70|exact T.p46|exact T.p79|exact T.p49)) ?_)|(refine Q9 (hu:=by (first|exact T.p68|exact T.p3|exact T.p41|exact T.p70|exact T.p46|exact T.p79|exact T.p49)) ?_)|(refine Q6 (hu:=T.s67) ?_)|refine Q13 T.s67 ?_|refine Q25 T.s67 ?_|refine Q11 T.a43 ?_|refine Q14 T.a43 ?_|(refine Bn T.a43 ?_)|refine Q34 T.a43 ?_)|apply ZF|apply ZK|apply Zo|apply Zbn|apply Zbm|refine R2 ?_|(apply Za;exact rfl;all_goals (intro h;try (exfalso;omega)))|(apply Zy;exact rfl;all_goals intro h)|((fail_if_success (refine Q1 ?_));apply Zb;exact rfl;exact rfl;all_goals (intro h;try (exfalso;omega)))|((fail_if_success (refine Q1 ?_));apply ZW;exact rfl;exact rfl;all_goals intro h)|refine Zf 1 [] [0,1,2,3,4,5,6] mixed (by decide +kernel) ?_|refine Zf 1 [] [0,1,2,3,4,5,6,7,8,9,10,11,12,13,14,15,16,17,18,19,20,21] mixed (by decide +kernel) ?_|fail)
  refine Zg ?_
  repeat' (first|refine R1 ?_|(refine Q1 ?_;first|(refine Q2 (hu:=by (first|exact T.f72_1|exact T.f43_0|exact T.f43_2|exact T.f43_4|exact T.f72_5|exact T.f43_1|exact T.f82_0|exact T.f82_1|exact T.f54_0|exact T.f72_2)) ?_)|(refine Q3 (hu:=by (first|exact T.p68|exact T.p3|exact T.p41|exact T.p70|exact T.p46|exact T.p79|exact T.p49)) ?_)|(refine Q31 (hu:=by (first|exact T.p68|exact T.p3|exact T.p41|exact T.p70|exact T.p46|exact T.p79|exact T.p49)) ?_)|(refine Q44 (hu:=by (first|exact T.p68|exact T.p3|exact T.p41|exact T.p70|exact T.p46|exact T.p79|exact T.p49)) ?_)|(refine Q9 (hu:=by (first|exact T.p68|exact T.p3|exact T.p41|exact T.p70|exact T.p46|exact T.p79|exact T.p49)) ?_)|(refine Q6 (hu:=T.s67) ?_)|refine Q13 T.s67 ?_|refine Q25 T.s67 ?_|refine Q11 T.a43 ?_|refine Q14 T.a43 ?_|(refine Bn T.a43 ?_)|refine Q34 T.a43 ?_)|apply ZF|apply ZK|apply Zo|apply Zbn|apply Zbm|refine R2 ?_|(apply Za;exact rfl;all_goals (intro h;try (exfalso;omega)))|(apply Zy;exact rfl;all_goals intro h)|((fail_if_success (refine Q1 ?_));apply Zb;exact rfl;exact rfl;all_goals (intro h;try (exfalso;omega)))|((fail_if_success (refine Q1 ?_));apply ZW;exact rfl;exact rfl;all_goals intro h)|refine Zf 1 [] [0,1,2,3,4,5,6] mixed (by decide +kernel) ?_|refine Zf 1 [] [0,1,2,3,4,5,6,7,8,9,10,11,12,13,14,15,16,17,18,19,20,21] mixed (by decide +kernel) ?_|fail)
  all_goals try (exfalso;simp only at *;omega)
  refine Kr Tryz.results12 ?_
  exact ⟨g4,ds4,(Stq.of_ext hx3 0).trans hS4,hK4,hl4⟩
def MN (g:Nat→Nat) (w:World) (k lg d each nn:Nat):Prop:=∃so ds,BX g w k lg d (2 * each) nn 0 0 (.pointer (some (adr (bx so) 0))) ds∧Bk g w 6 so 164 [.pointer (some (adr (bx d) 0)),.int .i64 0,.int .i64 (each:Int),.int .i64 0,.bool false]
theorem MN.stp {ix:Nat} {T:List Nat} {g g':Nat→Nat} {w w':World} {k lg d each nn:Nat} (h:MN g w k lg d each nn) (s:Stq ix T g g' w w') (h1:1 ∉ T) (h2:2 ∉ T) (h6:6 ∉ T):MN g' w' k lg d each nn:=by
 obtain ⟨so,ds,q1,q2⟩:=h
 exact ⟨so,ds,q1.stp s h1 h2 h6,q2.stp s h6⟩
set_option maxRecDepth 20000 in
theorem NU (hV:Bk g w 8 sb 72 [.int .i64 (each:Int),.int .i64 (nn:Int),.pointer (some (adr (bx dk) 0)),.int .i64 0,.slice none 0 0,.slice none 0 0,.pointer none]) (hD:AZ g w dk ds []) (h0:∀x∈ds,x=Cw) (he:1≤each) (hn:1≤nn) (hf:2 * each+nn≤ds.length) (hds:ds.length≤65536) :
  Ctr Tryz.prog 33 [.pointer (some (adr (bx sb) 0))] w (fun _ w'=>∃g' m k lg st ix,w.heap.size≤ix∧Stq ix [8] g g' w w'∧Srv g' w' sb m k dk each nn 0 [0] [] 0∧Db g' w' ix st k m lg dk key [] 0 0 0 [] nn 0∧MN g' w' k lg dk each nn):=by
 have b1:=hV.blk
 refine Ac Tryz.func33 Tryz.ntmps33 rfl rfl rfl ?_
 repeat' (first|refine R1 ?_|(refine Q1 ?_;first|(refine Q2 (hu:=by (first|exact T.f72_5|exact T.f72_3|exact T.f72_1|exact T.f72_0|exact T.f72_2)) ?_)|(refine Q3 (hu:=by (first|exact T.p41|exact T.p68|exact T.p3)) ?_)|(refine Q31 (hu:=by (first|exact T.p41|exact T.p68|exact T.p3)) ?_)|(refine Q44 (hu:=by (first|exact T.p41|exact T.p68|exact T.p3)) ?_)|(refine Q9 (hu:=by (first|exact T.p41|exact T.p68|exact T.p3)) ?_)|refine Q11 T.a26 ?_|refine Q14 T.a26 ?_|(refine Bn T.a26 ?_)|refine Q34 T.a26 ?_|(refine Q6 (hu:=T.s41) ?_)|refine Q13 T.s41 ?_|refine Q25 T.s41 ?_)|refine R2 ?_|(apply Za;exact rfl;all_goals (intro h;try (exfalso;omega)))|(apply Zy;exact rfl;all_goals intro h)|((fail_if_success (refine Q1 ?_));apply Zb;exact rfl;exact rfl;all_goals (intro h;try (exfalso;omega)))|((fail_if_success (refine Q1 ?_));apply ZW;exact rfl;exact rfl;all_goals intro h)|refine Zf 1 [] [0,1,2,3,4,5,6,7,8,9,10,11,12,13,14,15] mixed (by decide +kernel) ?_|refine Zf 1 [] [0,1,2,3,4,5,6,7,8,9,10,11,12,13] mixed (by decide +kernel) ?_|fail)
 refine Q1 ?_;refine Q5 T.z70 b1 ?_;intro w1 hb1 hg1 hs1
 replace hb1:Blk w1.heap sb 72 [.int .i64 (each:Int),.int .i64 (nn:Int),.pointer (some (adr (bx dk) 0)),.int .i64 0,.slice none 0 0,.slice none 0 0,.pointer none]:=hb1
 have hS1:=hV.stpG (T:=[8]) (ix:=0) hg1 0 (by simp)
 have hV1:=hV.turned (u:=0) hb1
 have hD1:=hD.stp hS1 (by decide)
 repeat' (first|refine R1 ?_|(refine Q1 ?_;first|(refine Q2 (hu:=by (first|exact T.f72_5|exact T.f72_3|exact T.f72_1|exact T.f72_0|exact T.f72_2)) ?_)|(refine Q3 (hu:=by (first|exact T.p41|exact T.p68|exact T.p3)) ?_)|(refine Q31 (hu:=by (first|exact T.p41|exact T.p68|exact T.p3)) ?_)|(refine Q44 (hu:=by (first|exact T.p41|exact T.p68|exact T.p3)) ?_)|(refine Q9 (hu:=by (first|exact T.p41|exact T.p68|exact T.p3)) ?_)|refine Q11 T.a26 ?_|refine Q14 T.a26 ?_|(refine Bn T.a26 ?_)|refine Q34 T.a26 ?_|(refine Q6 (hu:=T.s41) ?_)|refine Q13 T.s41 ?_|refine Q25 T.s41 ?_)|refine R2 ?_|(apply Za;exact rfl;all_goals (intro h;try (exfalso;omega)))|(apply Zy;exact rfl;all_goals intro h)|((fail_if_success (refine Q1 ?_));apply Zb;exact rfl;exact rfl;all_goals (intro h;try (exfalso;omega)))|((fail_if_success (refine Q1 ?_));apply ZW;exact rfl;exact rfl;all_goals intro h)|refine Zf 1 [] [0,1,2,3,4,5,6,7,8,9,10,11,12,13,14,15] mixed (by decide +kernel) ?_|refine Zf 1 [] [0,1,2,3,4,5,6,7,8,9,10,11,12,13] mixed (by decide +kernel) ?_|fail)
 refine Q1 ?_
 refine Q12 He (-1) T.s41 ?_
 intro p2 w2 hp2 hs2 hb2 hx2 hz2
 have hV2:=hV1.ext hx2 0
 have hrow2:Rw (rt (rt g w 0) w1 0) w2 8 3 He none 0 []:=Rw.nil (by unfold ixT;decide)
 repeat' (first|refine R1 ?_|(refine Q1 ?_;first|(refine Q16 T.s41 hrow2.own hs2 (xs:=([]:List Int)) (e:=He) (hB:=Nat.zero_le _) (hlen:=by (simp)) (hmax:=by (simp)) ?_;intro p3 c3 w3 ha3)|(refine Q2 (hu:=by (first|exact T.f72_5|exact T.f72_3|exact T.f72_1|exact T.f72_0|exact T.f72_2)) ?_)|(refine Q3 (hu:=by (first|exact T.p41|exact T.p68|exact T.p3)) ?_)|(refine Q31 (hu:=by (first|exact T.p41|exact T.p68|exact T.p3)) ?_)|(refine Q44 (hu:=by (first|exact T.p41|exact T.p68|exact T.p3)) ?_)|(refine Q9 (hu:=by (first|exact T.p41|exact T.p68|exact T.p3)) ?_)|refine Q11 T.a26 ?_|refine Q14 T.a26 ?_|(refine Bn T.a26 ?_)|refine Q34 T.a26 ?_|(refine Q6 (hu:=T.s41) ?_)|refine Q13 T.s41 ?_|refine Q25 T.s41 ?_)|refine R2 ?_|(apply Za;exact rfl;all_goals (intro h;try (exfalso;omega)))|(apply Zy;exact rfl;all_goals intro h)|((fail_if_success (refine Q1 ?_));apply Zb;exact rfl;exact rfl;all_goals (intro h;try (exfalso;omega)))|((fail_if_success (refine Q1 ?_));apply ZW;exact rfl;exact rfl;all_goals intro h)|refine Zf 1 [] [0,1,2,3,4,5,6,7,8,9,10,11,12,13,14,15] mixed (by decide +kernel) ?_|refine Zf 1 [] [0,1,2,3,4,5,6,7,8,9,10,11,12,13] mixed (by decide +kernel) ?_|fail)
 have hS3:=hrow2.appS (T:=[8]) (ix:=0) ha3 (by simp)
 have hrow3:=hrow2.app ha3
 have hV3:=hV2.turn ha3.grown (fun e=>by cases e) 8
 have b3:=hV3.blk
 refine Q1 ?_;refine Q5 T.z41 b3 ?_;intro w4 hb4 hg4 hs4
 replace hb4:Blk w4.heap sb 72 [.int .i64 (each:Int),.int .i64 (nn:Int),.pointer (some (adr (bx dk) 0)),.int .i64 0,.slice p3 1 c3,.slice none 0 0,.pointer none]:=hb4
 have hS4:=hV3.stpG (T:=[8]) (ix:=0) hg4 0 (by simp)
 have hV4:=hV3.turned (u:=0) hb4
 have hrow4:=hrow3.turn hg4 (fun k hk e=>hrow3.neB hV3 (by decide) (by rw [hk];exact e.symm)) 0
 have hD4:=((hD1.ext hx2 0).stp hS3 (by decide)).stp hS4 (by decide)
 have b4:=hV4.blk
 have hdr:Ext w4 w4.drew:=Ext.drew Ext.rfl'
 have hS04:∀ix,Stq ix [8] g (rt (rt (rt (rt g w 0) w1 0) w2 8) w3 0) w w4:=fun ix=>(((hV.stpG (ix:=ix) (T:=[8]) hg1 0 (by simp)).trans (Stq.of_ext hx2 0)).trans (hrow2.appS (ix:=ix) (T:=[8]) ha3 (by simp))).trans (hV3.stpG (ix:=ix) (T:=[8]) hg4 0 (by simp))
 have hV5:=hV4.ext hdr 0
 have hrow5:=hrow4.ext hdr 0
 have hD5:=hD4.ext hdr 0
 have b5:=hV5.blk
 repeat' (first|refine R1 ?_|(refine Q1 ?_;first|(refine Q4 (f:=51) (hc:=RO (key:=key) hD5 h0 he hn hf hds) ?_;rintro _ w6 ⟨k,lg,sl,st,ix,rfl,hk,hlg,hsl,hix,hst,hbk,hbl,hbs,hSt,hx6⟩;refine Kc ?_;replace b5:=b5.ext (Kx hx6))|(refine Q2 (hu:=by (first|exact T.f72_5|exact T.f72_3|exact T.f72_1|exact T.f72_0|exact T.f72_2)) ?_)|(refine Q3 (hu:=by (first|exact T.p41|exact T.p68|exact T.p3)) ?_)|(refine Q31 (hu:=by (first|exact T.p41|exact T.p68|exact T.p3)) ?_)|(refine Q44 (hu:=by (first|exact T.p41|exact T.p68|exact T.p3)) ?_)|(refine Q9 (hu:=by (first|exact T.p41|exact T.p68|exact T.p3)) ?_)|refine Q11 T.a26 ?_|refine Q14 T.a26 ?_|(refine Bn T.a26 ?_)|refine Q34 T.a26 ?_|(refine Q6 (hu:=T.s41) ?_)|refine Q13 T.s41 ?_|refine Q25 T.s41 ?_)|refine R2 ?_|(apply Za;exact rfl;all_goals (intro h;try (exfalso;omega)))|(apply Zy;exact rfl;all_goals intro h)|((fail_if_success (refine Q1 ?_));apply Zb;exact rfl;exact rfl;all_goals (intro h;try (exfalso;omega)))|((fail_if_success (refine Q1 ?_));apply ZW;exact rfl;exact rfl;all_goals intro h)|refine Zf 1 [] [0,1,2,3,4,5,6,7,8,9,10,11,12,13,14,15] mixed (by decide +kernel) ?_|refine Zf 1 [] [0,1,2,3,4,5,6,7,8,9,10,11,12,13] mixed (by decide +kernel) ?_|fail)
 have s6:∀(ix:Nat) (T:List Nat),Stq ix T _ (Gq (rt (rt (rt (rt (rt g w 0) w1 0) w2 8) w3 0) w4 0) w4.drew st k lg sl) w4.drew w6:=fun ix T=>Stq.of_gOpen hx6 st k lg sl
 have hV6:=hV5.stp (s6 0 []) (by simp)
 have hrow6:=hrow5.stp (s6 0 []) (by simp)
 have hD6:=hD5.stp (s6 0 []) (by simp)
 have n1:=BB hbk hSt.box (by decide)
 have n2:=BB hbl hSt.box (by decide)
 have n3:=BB hbl hbk (by decide)
 have hK6:BX (Gq (rt (rt (rt (rt (rt g w 0) w1 0) w2 8) w3 0) w4 0) w4.drew st k lg sl) w6 k lg dk (2 * each) nn 0 0 (.pointer (some (adr (bx sl) 0))) ds:=by
  refine ⟨⟨hbk,?_,by unfold ixT;decide⟩,⟨hbl,?_,by unfold ixT;decide⟩,hD6,hds,hf⟩
  ·unfold Gq;rw [if_neg (by omega),if_neg n1,if_pos rfl]
  ·unfold Gq;rw [if_neg (by omega),if_neg n2,if_neg n3,if_pos rfl]
 have hT6:Cf (Gq (rt (rt (rt (rt (rt g w 0) w1 0) w2 8) w3 0) w4 0) w4.drew st k lg sl) w6 st ix key [] 0 0:=by
  refine ⟨⟨fun _=>False,hSt,fun k h=>h.elim⟩,?_⟩
  unfold Gq;rw [if_neg (by omega),if_pos rfl]
 have n4:=BB hbs hSt.box (by decide)
 have n5:=BB hbs hbk (by decide)
 have n6:=BB hbs hbl (by decide)
 have hSl6:Bk (Gq (rt (rt (rt (rt (rt g w 0) w1 0) w2 8) w3 0) w4 0) w4.drew st k lg sl) w6 6 sl 164 _:=⟨hbs,by unfold Gq;rw [if_neg (by omega),if_neg n4,if_neg n5,if_neg n6,if_pos rfl],by unfold ixT;decide⟩
 generalize Gq (rt (rt (rt (rt (rt g w 0) w1 0) w2 8) w3 0) w4 0) w4.drew st k lg sl=g6 at *
 repeat' (first|refine R1 ?_|(refine Q1 ?_;first|(refine Q61 (hu:=⟨_,Tryz.underlying79,fun ms h=>by cases h⟩) ?_)|(refine Q4 (f:=52) (hc:=We (g:=g6) rfl) ?_;rintro _ w7 ⟨m,rfl,hm,hM7,hx7⟩;refine Kc ?_;replace b5:=b5.ext (Kx hx7))|(refine Q2 (hu:=by (first|exact T.f72_5|exact T.f72_3|exact T.f72_1|exact T.f72_0|exact T.f72_2)) ?_)|(refine Q3 (hu:=by (first|exact T.p41|exact T.p68|exact T.p3)) ?_)|(refine Q31 (hu:=by (first|exact T.p41|exact T.p68|exact T.p3)) ?_)|(refine Q44 (hu:=by (first|exact T.p41|exact T.p68|exact T.p3)) ?_)|(refine Q9 (hu:=by (first|exact T.p41|exact T.p68|exact T.p3)) ?_)|refine Q11 T.a26 ?_|refine Q14 T.a26 ?_|(refine Bn T.a26 ?_)|refine Q34 T.a26 ?_|(refine Q6 (hu:=T.s41) ?_)|refine Q13 T.s41 ?_|refine Q25 T.s41 ?_)|refine R2 ?_|(apply Za;exact rfl;all_goals (intro h;try (exfalso;omega)))|(apply Zy;exact rfl;all_goals intro h)|((fail_if_success (refine Q1 ?_));apply Zb;exact rfl;exact rfl;all_goals (intro h;try (exfalso;omega)))|((fail_if_success (refine Q1 ?_));apply ZW;exact rfl;exact rfl;all_goals intro h)|refine Zf 1 [] [0,1,2,3,4,5,6,7,8,9,10,11,12,13,14,15] mixed (by decide +kernel) ?_|refine Zf 1 [] [0,1,2,3,4,5,6,7,8,9,10,11,12,13] mixed (by decide +kernel) ?_|fail)
 have hV7:=hV6.ext hx7 4
 have b7:=hV7.blk
 have hrow7:=hrow6.ext hx7 4
 have hK7:=hK6.ext hx7 4
 have hT7:=hT6.ext hx7 4
 have hd7:Ext w7 w7.drew:=Ext.drew Ext.rfl'
 have hV8:=hV7.ext hd7 0
 have b8:=hV8.blk
 have hrow8:=hrow7.ext hd7 0
 have o8:=hrow8.own
 have s8:=hrow8.sl
 have hK8:=hK7.ext hd7 0
 have hT8:=hT7.stp (ix:=ix) (T:=[]) (g':=rt (rt g6 w6 4) w7 0) (Stq.of_ext hd7 0) (by simp)
 have hM8:=hM7.ext hd7 0
 obtain ⟨F8,hF8,-⟩:=hT8.ex
 have hrr:Ext w7.drew w7.drew:=Ext.rfl'
 have hq0:([-1]:List Int)[0]?=some (-1):=rfl
 repeat' (first|refine R1 ?_|(refine Q1 ?_;first|(refine Q4 (f:=37) (hc:=Sd hM7) ?_;rintro _ _ ⟨rfl,rfl⟩;refine Kc ?_)|(refine Q4 (f:=15) (hc:=GJ hF8) ?_;rintro _ _ ⟨rfl,rfl⟩;refine Kc ?_)|(refine Q10 T.s41 s8.ok (q:=0) (hj:=rfl) (h1:=by decide) ?_)|(refine Q2 (hu:=by (first|exact T.f72_5|exact T.f72_3|exact T.f72_1|exact T.f72_0|exact T.f72_2)) ?_)|(refine Q3 (hu:=by (first|exact T.p41|exact T.p68|exact T.p3)) ?_)|(refine Q31 (hu:=by (first|exact T.p41|exact T.p68|exact T.p3)) ?_)|(refine Q44 (hu:=by (first|exact T.p41|exact T.p68|exact T.p3)) ?_)|(refine Q9 (hu:=by (first|exact T.p41|exact T.p68|exact T.p3)) ?_)|refine Q11 T.a26 ?_|refine Q14 T.a26 ?_|(refine Bn T.a26 ?_)|refine Q34 T.a26 ?_|(refine Q6 (hu:=T.s41) ?_)|refine Q13 T.s41 ?_|refine Q25 T.s41 ?_)|refine R2 ?_|(apply Za;exact rfl;all_goals (intro h;try (exfalso;omega)))|(apply Zy;exact rfl;all_goals intro h)|((fail_if_success (refine Q1 ?_));apply Zb;exact rfl;exact rfl;all_goals (intro h;try (exfalso;omega)))|((fail_if_success (refine Q1 ?_));apply ZW;exact rfl;exact rfl;all_goals intro h)|refine Zf 1 [] [0,1,2,3,4,5,6,7,8,9,10,11,12,13,14,15] mixed (by decide +kernel) ?_|refine Zf 1 [] [0,1,2,3,4,5,6,7,8,9,10,11,12,13] mixed (by decide +kernel) ?_|fail)
 (refine Q1 ?_;refine Q42 (0:Int) T.z3 o8 hq0 (off:=0) (q:=0) (hB:=Nat.zero_le _) ?_;intro w9 ha9 hz9)
 have hS9:=hrow8.appS (T:=[8]) (ix:=ix) ha9 (by simp)
 have hrow9:=hrow8.app ha9
 have hV9:=hV8.turn ha9.grown (hrow8.neB hV8 (by decide)) 8
 have hK9:=hK8.stp hS9 (by decide) (by decide) (by decide)
 have hT9:=hT8.stp hS9 (by decide)
 have hM9:=hM8.stp hS9 (by decide) (by decide)
 have b9:=hV9.blk
 repeat' (first|refine R1 ?_|(refine Q1 ?_;first|(refine Q2 (hu:=by (first|exact T.f72_5|exact T.f72_3|exact T.f72_1|exact T.f72_0|exact T.f72_2)) ?_)|(refine Q3 (hu:=by (first|exact T.p41|exact T.p68|exact T.p3)) ?_)|(refine Q31 (hu:=by (first|exact T.p41|exact T.p68|exact T.p3)) ?_)|(refine Q44 (hu:=by (first|exact T.p41|exact T.p68|exact T.p3)) ?_)|(refine Q9 (hu:=by (first|exact T.p41|exact T.p68|exact T.p3)) ?_)|refine Q11 T.a26 ?_|refine Q14 T.a26 ?_|(refine Bn T.a26 ?_)|refine Q34 T.a26 ?_|(refine Q6 (hu:=T.s41) ?_)|refine Q13 T.s41 ?_|refine Q25 T.s41 ?_)|refine R2 ?_|(apply Za;exact rfl;all_goals (intro h;try (exfalso;omega)))|(apply Zy;exact rfl;all_goals intro h)|((fail_if_success (refine Q1 ?_));apply Zb;exact rfl;exact rfl;all_goals (intro h;try (exfalso;omega)))|((fail_if_success (refine Q1 ?_));apply ZW;exact rfl;exact rfl;all_goals intro h)|refine Zf 1 [] [0,1,2,3,4,5,6,7,8,9,10,11,12,13,14,15] mixed (by decide +kernel) ?_|refine Zf 1 [] [0,1,2,3,4,5,6,7,8,9,10,11,12,13] mixed (by decide +kernel) ?_|fail)
 refine Q1 ?_
 refine Q77 Tryz.underlying80 Ud (m:=256) ?_
 intro w10 hch10 hx10 hz10
 repeat' (first|refine R1 ?_|(refine Q1 ?_;first|(apply Zi;exact rfl;exact Ty _ _ _;exact rfl)|(refine Q2 (hu:=by (first|exact T.f72_5|exact T.f72_3|exact T.f72_1|exact T.f72_0|exact T.f72_2)) ?_)|(refine Q3 (hu:=by (first|exact T.p41|exact T.p68|exact T.p3)) ?_)|(refine Q31 (hu:=by (first|exact T.p41|exact T.p68|exact T.p3)) ?_)|(refine Q44 (hu:=by (first|exact T.p41|exact T.p68|exact T.p3)) ?_)|(refine Q9 (hu:=by (first|exact T.p41|exact T.p68|exact T.p3)) ?_)|refine Q11 T.a26 ?_|refine Q14 T.a26 ?_|(refine Bn T.a26 ?_)|refine Q34 T.a26 ?_|(refine Q6 (hu:=T.s41) ?_)|refine Q13 T.s41 ?_|refine Q25 T.s41 ?_)|refine R2 ?_|(apply Za;exact rfl;all_goals (intro h;try (exfalso;omega)))|(apply Zy;exact rfl;all_goals intro h)|((fail_if_success (refine Q1 ?_));apply Zb;exact rfl;exact rfl;all_goals (intro h;try (exfalso;omega)))|((fail_if_success (refine Q1 ?_));apply ZW;exact rfl;exact rfl;all_goals intro h)|refine Zf 1 [] [0,1,2,3,4,5,6,7,8,9,10,11,12,13,14,15] mixed (by decide +kernel) ?_|refine Zf 1 [] [0,1,2,3,4,5,6,7,8,9,10,11,12,13] mixed (by decide +kernel) ?_|fail)
 refine Q1 ?_;refine Q8 ?_;intro a11 w11 ha11 hA11 hx11 hs11
 replace hA11:Blk w11.heap a11 82 [.pointer (some (adr (bx m) 0)),.pointer (some (adr (bx k) 0)),.int .i64 ((0:Nat):Int),.chan (some w9.heap.size)]:=hA11
 have hCh:Cx _ w10 8 w9.heap.size 256 #[]:=⟨⟨0,0,hch10⟩,CU (g:=rt (rt (rt g6 w6 4) w7 0) w7.drew 8) (w:=w9) (t:=8) (Nat.le_refl _)⟩
 have hCh:=hCh.ext hx11 8
 have hLf:Bk (rt (rt (rt (rt (rt g6 w6 4) w7 0) w7.drew 8) w9 8) w10 8) w11 8 a11 82 _:=Bk.new hA11 (by omega) (by unfold ixT;decide)
 have hx911:=hx10.trans hx11
 have hV11:=(hV9.ext hx10 8).ext hx11 8
 have hrow11:=(hrow9.ext hx10 8).ext hx11 8
 have hK11:=(hK9.ext hx10 8).ext hx11 8
 have hM11:=(hM9.ext hx10 8).ext hx11 8
 have hT11:=(hT9.stp (ix:=ix) (T:=[]) (g':=rt (rt (rt (rt g6 w6 4) w7 0) w7.drew 8) w9 8) (Stq.of_ext hx10 8) (by simp)).stp (ix:=ix) (T:=[]) (g':=rt (rt (rt (rt (rt g6 w6 4) w7 0) w7.drew 8) w9 8) w10 8) (Stq.of_ext hx11 8) (by simp)
 have b11:=hV11.blk
 repeat' (first|refine R1 ?_|(refine Q1 ?_;first|(refine Q2 (hu:=by (first|exact T.f72_5|exact T.f72_3|exact T.f72_1|exact T.f72_0|exact T.f72_2)) ?_)|(refine Q3 (hu:=by (first|exact T.p41|exact T.p68|exact T.p3)) ?_)|(refine Q31 (hu:=by (first|exact T.p41|exact T.p68|exact T.p3)) ?_)|(refine Q44 (hu:=by (first|exact T.p41|exact T.p68|exact T.p3)) ?_)|(refine Q9 (hu:=by (first|exact T.p41|exact T.p68|exact T.p3)) ?_)|refine Q11 T.a26 ?_|refine Q14 T.a26 ?_|(refine Bn T.a26 ?_)|refine Q34 T.a26 ?_|(refine Q6 (hu:=T.s41) ?_)|refine Q13 T.s41 ?_|refine Q25 T.s41 ?_)|refine R2 ?_|(apply Za;exact rfl;all_goals (intro h;try (exfalso;omega)))|(apply Zy;exact rfl;all_goals intro h)|((fail_if_success (refine Q1 ?_));apply Zb;exact rfl;exact rfl;all_goals (intro h;try (exfalso;omega)))|((fail_if_success (refine Q1 ?_));apply ZW;exact rfl;exact rfl;all_goals intro h)|refine Zf 1 [] [0,1,2,3,4,5,6,7,8,9,10,11,12,13,14,15] mixed (by decide +kernel) ?_|refine Zf 1 [] [0,1,2,3,4,5,6,7,8,9,10,11,12,13] mixed (by decide +kernel) ?_|fail)
 refine Q1 ?_;refine Q5 T.z70 b11 ?_;intro w12 hb12 hg12 hs12
 replace hb12:Blk w12.heap sb 72 [.int .i64 (each:Int),.int .i64 (nn:Int),.pointer (some (adr (bx dk) 0)),.int .i64 0,.slice p3 1 c3,.slice none 0 0,.pointer (some (adr (bx a11) 0))]:=hb12
 have hS12:Stq ix [8] _ (rt (rt (rt (rt (rt (rt g6 w6 4) w7 0) w7.drew 8) w9 8) w10 8) w11 0) w11 w12:=hV11.stpG hg12 0 (by simp)
 have hrow12:=hrow11.turn hg12 (fun k hk e=>hrow11.neB hV11 (by decide) (by rw [hk];exact e.symm)) 0
 have hLf12:=hLf.turn hg12 (fun e=>hLf.neT hV11 (by decide) (by injection e with e;exact e.symm)) 0
 have hCh12:=hCh.turn hV11 hg12 0
 have hK12:=hK11.stp hS12 (by decide) (by decide) (by decide)
 have hM12:=hM11.stp hS12 (by decide) (by decide)
 have hT12:=hT11.stp hS12 (by decide)
 have hV12:=hV11.turned (u:=0) hb12
 have hSl8:=(hSl6.ext hx7 4).ext hd7 0
 have hSl12:=(((hSl8.stp hS9 (by decide)).ext hx10 8).ext hx11 8).stp hS12 (by decide)
 repeat' (first|refine R1 ?_|(refine Q1 ?_;first|(refine Q2 (hu:=by (first|exact T.f72_5|exact T.f72_3|exact T.f72_1|exact T.f72_0|exact T.f72_2)) ?_)|(refine Q3 (hu:=by (first|exact T.p41|exact T.p68|exact T.p3)) ?_)|(refine Q31 (hu:=by (first|exact T.p41|exact T.p68|exact T.p3)) ?_)|(refine Q44 (hu:=by (first|exact T.p41|exact T.p68|exact T.p3)) ?_)|(refine Q9 (hu:=by (first|exact T.p41|exact T.p68|exact T.p3)) ?_)|refine Q11 T.a26 ?_|refine Q14 T.a26 ?_|(refine Bn T.a26 ?_)|refine Q34 T.a26 ?_|(refine Q6 (hu:=T.s41) ?_)|refine Q13 T.s41 ?_|refine Q25 T.s41 ?_)|refine R2 ?_|(apply Za;exact rfl;all_goals (intro h;try (exfalso;omega)))|(apply Zy;exact rfl;all_goals intro h)|((fail_if_success (refine Q1 ?_));apply Zb;exact rfl;exact rfl;all_goals (intro h;try (exfalso;omega)))|((fail_if_success (refine Q1 ?_));apply ZW;exact rfl;exact rfl;all_goals intro h)|refine Zf 1 [] [0,1,2,3,4,5,6,7,8,9,10,11,12,13,14,15] mixed (by decide +kernel) ?_|refine Zf 1 [] [0,1,2,3,4,5,6,7,8,9,10,11,12,13] mixed (by decide +kernel) ?_|fail)
 refine Zk Tryz.results33 (vs:=[]) rfl ?_
 have z04:=(hS04 0).size
 have zdr:=hdr.size
 refine ⟨_,m,k,lg,st,ix,by omega,?_,⟨a11,w9.heap.size,p3,c3,none,0,#[],hV12,hrow12,Rw.nil (by unfold ixT;decide),hLf12,hCh12,Nat.zero_le _⟩,⟨hM12,hT12,2 * each,.pointer (some (adr (bx sl) 0)),ds,hK12⟩,sl,ds,hK12,hSl12⟩
 exact (((((((((hS04 ix).trans (Stq.of_ext hdr 0)).trans (s6 ix [8])).trans (Stq.of_ext hx7 4)).trans (Stq.of_ext hd7 0)).trans hS9).trans (Stq.of_ext hx10 8)).trans (Stq.of_ext hx11 8)).trans hS12)
set_option maxRecDepth 20000 in
theorem Qa (hx:Ext W0 w) (he:1≤each) (hn:1≤nn) (hb:2 * each+nn≤65536) :
  Ctr Tryz.prog 17 [.agg #[.int .i64 (each:Int),.int .i64 (nn:Int)]] w (fun v w'=>∃g' sb dk m k lg st ix,v=.tuple #[.pointer (some (adr (bx sb) 0)),.int .i64 0]∧Bs W0 ix g' w'∧w.heap.size≤ix∧Ext w w'∧Srv g' w' sb m k dk each nn 0 [0] [] 0∧Db g' w' ix st k m lg dk key [] 0 0 0 [] nn 0∧MN g' w' k lg dk each nn):=by
 obtain ⟨g,hg⟩:∃g:Nat→Nat,g=fun _=>0:=⟨_,rfl⟩
 refine Ac Tryz.func17 Tryz.ntmps17 rfl rfl rfl ?_
 repeat' (first|refine R1 ?_|(refine Q1 ?_;first|(refine Q2 (hu:=by (first|exact T.f28_0|exact T.f26_0|exact T.f26_1|exact T.f72_5)) ?_)|(refine Q3 (hu:=by (first|exact T.p3|exact T.p70)) ?_)|(refine Q31 (hu:=by (first|exact T.p3|exact T.p70)) ?_)|(refine Q44 (hu:=by (first|exact T.p3|exact T.p70)) ?_)|(refine Q9 (hu:=by (first|exact T.p3|exact T.p70)) ?_)|refine Q11 T.a26 ?_|refine Q14 T.a26 ?_|(refine Bn T.a26 ?_)|refine Q34 T.a26 ?_)|refine R2 ?_|(apply Za;exact rfl;all_goals (intro h;try (exfalso;omega)))|(apply Zy;exact rfl;all_goals intro h)|((fail_if_success (refine Q1 ?_));apply Zb;exact rfl;exact rfl;all_goals (intro h;try (exfalso;omega)))|((fail_if_success (refine Q1 ?_));apply ZW;exact rfl;exact rfl;all_goals intro h)|fail)
 refine Q1 ?_;refine Q8 ?_;intro a1 w1 ha1 hA1 hx1 hs1
 replace hA1:Blk w1.heap a1 28 [.int .i64 (each:Int),.int .i64 (nn:Int)]:=hA1
 repeat' (first|refine R1 ?_|(refine Q1 ?_;first|(refine Q4 (f:=32) (hc:=TR (n:=2 * each+nn) (g:=rt g w 0) (by omega) hb) ?_;rintro _ w2 ⟨dk,rfl,hD2,hx2⟩;refine Kc ?_;replace hA1:=hA1.ext (Kx hx2))|(refine Q2 (hu:=by (first|exact T.f28_0|exact T.f26_0|exact T.f26_1|exact T.f72_5)) ?_)|(refine Q3 (hu:=by (first|exact T.p3|exact T.p70)) ?_)|(refine Q31 (hu:=by (first|exact T.p3|exact T.p70)) ?_)|(refine Q44 (hu:=by (first|exact T.p3|exact T.p70)) ?_)|(refine Q9 (hu:=by (first|exact T.p3|exact T.p70)) ?_)|refine Q11 T.a26 ?_|refine Q14 T.a26 ?_|(refine Bn T.a26 ?_)|refine Q34 T.a26 ?_)|refine R2 ?_|(apply Za;exact rfl;all_goals (intro h;try (exfalso;omega)))|(apply Zy;exact rfl;all_goals intro h)|((fail_if_success (refine Q1 ?_));apply Zb;exact rfl;exact rfl;all_goals (intro h;try (exfalso;omega)))|((fail_if_success (refine Q1 ?_));apply ZW;exact rfl;exact rfl;all_goals intro h)|fail)
 repeat' (first|refine R1 ?_|(refine Q1 ?_;first|(apply Zi;exact rfl;exact Vu _ _ _;exact rfl)|(refine Q2 (hu:=by (first|exact T.f28_0|exact T.f26_0|exact T.f26_1|exact T.f72_5)) ?_)|(refine Q3 (hu:=by (first|exact T.p3|exact T.p70)) ?_)|(refine Q31 (hu:=by (first|exact T.p3|exact T.p70)) ?_)|(refine Q44 (hu:=by (first|exact T.p3|exact T.p70)) ?_)|(refine Q9 (hu:=by (first|exact T.p3|exact T.p70)) ?_)|refine Q11 T.a26 ?_|refine Q14 T.a26 ?_|(refine Bn T.a26 ?_)|refine Q34 T.a26 ?_)|refine R2 ?_|(apply Za;exact rfl;all_goals (intro h;try (exfalso;omega)))|(apply Zy;exact rfl;all_goals intro h)|((fail_if_success (refine Q1 ?_));apply Zb;exact rfl;exact rfl;all_goals (intro h;try (exfalso;omega)))|((fail_if_success (refine Q1 ?_));apply ZW;exact rfl;exact rfl;all_goals intro h)|fail)
 refine Q1 ?_;refine Q8 ?_;intro a3 w3 ha3 hA3 hx3 hs3
 replace hA3:Blk w3.heap a3 72 [.int .i64 (each:Int),.int .i64 (nn:Int),.pointer (some (adr (bx dk) 0)),.int .i64 0,.slice none 0 0,.slice none 0 0,.pointer none]:=hA3
 have hV3:Bk (rt (rt (rt g w 0) w1 1) w2 8) w3 8 a3 72 _:=Bk.new hA3 (by omega) (by unfold ixT;decide)
 have hD3:=hD2.ext hx3 8
 have hx03:=(hx1.trans hx2).trans hx3
 repeat' (first|refine R1 ?_|(refine Q1 ?_;first|(refine Q2 (hu:=by (first|exact T.f28_0|exact T.f26_0|exact T.f26_1|exact T.f72_5)) ?_)|(refine Q3 (hu:=by (first|exact T.p3|exact T.p70)) ?_)|(refine Q31 (hu:=by (first|exact T.p3|exact T.p70)) ?_)|(refine Q44 (hu:=by (first|exact T.p3|exact T.p70)) ?_)|(refine Q9 (hu:=by (first|exact T.p3|exact T.p70)) ?_)|refine Q11 T.a26 ?_|refine Q14 T.a26 ?_|(refine Bn T.a26 ?_)|refine Q34 T.a26 ?_)|refine R2 ?_|(apply Za;exact rfl;all_goals (intro h;try (exfalso;omega)))|(apply Zy;exact rfl;all_goals intro h)|((fail_if_success (refine Q1 ?_));apply Zb;exact rfl;exact rfl;all_goals (intro h;try (exfalso;omega)))|((fail_if_success (refine Q1 ?_));apply ZW;exact rfl;exact rfl;all_goals intro h)|fail)
 refine Q1 ?_;refine Q4 (hc:=NU (key:=key) hV3 hD3 (fun x hx=>List.eq_of_mem_replicate hx) he hn (by rw [List.length_replicate];omega) (by rw [List.length_replicate];omega)) ?_;rintro _ w4 ⟨g4,m,k,lg,st,ix,hix,hS4,hV4,hDb4,hSl4⟩;refine Kc ?_
 have hg0:∀j,j<w.heap.size→rt (rt (rt g w 0) w1 1) w2 8 j=0:=fun j hj=>by
  have z1:=hx1.size
  have z2:=hx2.size
  rw [AY (by omega),AY (by omega),AY hj,hg]
 have z3:=hx03.size
 have hE4:Ext w w4:=hS4.toE hx03 hg0 (by omega) (by simp)
 have hB4:Bs W0 ix g4 w4:=⟨hx.trans hE4,fun j hj=>by
  have:=hx.size
  rw [hS4.tags j (by omega)]
  exact hg0 j (by omega),by have:=hx.size;omega⟩
 obtain ⟨lf,tq,lp,lc,cp,cc,bf,k1,k2,k3,k4,k5,k6⟩:=hV4.ex
 have b4:=k1.blk
 repeat' (first|refine R1 ?_|(refine Q1 ?_;first|(refine Q15 Tryz.underlying70 (t:=70) ?_)|(refine Q2 (hu:=by (first|exact T.f28_0|exact T.f26_0|exact T.f26_1|exact T.f72_5)) ?_)|(refine Q3 (hu:=by (first|exact T.p3|exact T.p70)) ?_)|(refine Q31 (hu:=by (first|exact T.p3|exact T.p70)) ?_)|(refine Q44 (hu:=by (first|exact T.p3|exact T.p70)) ?_)|(refine Q9 (hu:=by (first|exact T.p3|exact T.p70)) ?_)|refine Q11 T.a26 ?_|refine Q14 T.a26 ?_|(refine Bn T.a26 ?_)|refine Q34 T.a26 ?_)|refine R2 ?_|(apply Za;exact rfl;all_goals (intro h;try (exfalso;omega)))|(apply Zy;exact rfl;all_goals intro h)|((fail_if_success (refine Q1 ?_));apply Zb;exact rfl;exact rfl;all_goals (intro h;try (exfalso;omega)))|((fail_if_success (refine Q1 ?_));apply ZW;exact rfl;exact rfl;all_goals intro h)|fail)
 all_goals try (exfalso;simp only at *;omega)
 refine Kr Tryz.results17 ?_
 exact ⟨g4,a3,dk,m,k,lg,st,ix,rfl,hB4,by omega,hE4,hV4,hDb4,hSl4⟩
variable {j : Nat}
set_option maxRecDepth 20000 in
theorem EK (hj:j≤7) (he:1≤each) (hn:1≤nn) (hb:2 * each+nn≤65536) :
  Ctr Tryz.prog 7 [.agg #[.int .i64 (each:Int),.int .i64 (nn:Int)],.int .i64 (j:Int)] w (fun v w'=>∃g' ix hb sb dk m k lg st cs,v=.pointer (some (adr (bx hb) 0))∧Opn w g' w' ix hb sb dk m k lg st each nn cs key∧cs.length=j∧MN g' w' k lg dk each nn):=by
 refine Ac Tryz.func7 Tryz.ntmps7 rfl rfl rfl ?_
 repeat' (first|refine R1 ?_|(refine Q1 ?_;first|refine Q11 T.a28 ?_|refine Q14 T.a28 ?_|(refine Bn T.a28 ?_)|refine Q34 T.a28 ?_|(refine Q2 (hu:=T.f39_0) ?_)|(refine Q3 (hu:=T.p37) ?_)|(refine Q31 (hu:=T.p37) ?_)|(refine Q44 (hu:=T.p37) ?_)|(refine Q9 (hu:=T.p37) ?_))|refine R2 ?_|(apply Za;exact rfl;all_goals (intro h;try (exfalso;omega)))|(apply Zy;exact rfl;all_goals intro h)|((fail_if_success (refine Q1 ?_));apply Zb;exact rfl;exact rfl;all_goals (intro h;try (exfalso;omega)))|((fail_if_success (refine Q1 ?_));apply ZW;exact rfl;exact rfl;all_goals intro h)|fail)
 refine Q1 ?_;refine Q8 ?_;intro a2 w1 ha2 hA2 hx1 hs1
 replace hA2:Blk w1.heap a2 28 [.int .i64 (each:Int),.int .i64 (nn:Int)]:=hA2
 repeat' (first|refine R1 ?_|(refine Q1 ?_;first|(refine Q4 (f:=17) (hc:=Qa (key:=key) hx1 he hn hb) ?_;rintro _ w2 ⟨g2,sb,dk,m,k,lg,st,ix,rfl,hB2,hix,hx2,hV2,hDb2,hSl2⟩;refine Kc ?_)|(refine Q15 Tryz.underlying37 (t:=37) ?_)|(apply Zi;exact rfl;exact Rk _;exact rfl)|refine Q11 T.a28 ?_|refine Q14 T.a28 ?_|(refine Bn T.a28 ?_)|refine Q34 T.a28 ?_|(refine Q2 (hu:=T.f39_0) ?_)|(refine Q3 (hu:=T.p37) ?_)|(refine Q31 (hu:=T.p37) ?_)|(refine Q44 (hu:=T.p37) ?_)|(refine Q9 (hu:=T.p37) ?_))|refine R2 ?_|(apply Za;exact rfl;all_goals (intro h;try (exfalso;omega)))|(apply Zy;exact rfl;all_goals intro h)|((fail_if_success (refine Q1 ?_));apply Zb;exact rfl;exact rfl;all_goals (intro h;try (exfalso;omega)))|((fail_if_success (refine Q1 ?_));apply ZW;exact rfl;exact rfl;all_goals intro h)|fail)
 all_goals try (exfalso;simp only at *;omega)
 refine Q1 ?_;refine Q8 ?_;intro a3 w3 ha3 hA3 hx3 hs3
 replace hA3:Blk w3.heap a3 39 [.pointer (some (adr (bx sb) 0))]:=hA3
 have hO3:Opn w (rt g2 w2 9) w3 ix a3 sb dk m k lg st each nn [] key :=
  ⟨hB2.stp (T:=[]) (Stq.of_ext hx3 9) (by simp),Bk.new hA3 (by omega) (by unfold ixT;decide),hV2.ext hx3 9,⟨by simp,fun i x h=>by simp at h⟩,hDb2.stp (T:=[]) (Stq.of_ext hx3 9) (fun t ht=>by cases ht),fun i x h=>by simp at h⟩
 repeat' (first|refine R1 ?_|(refine Q1 ?_;first|refine Q11 T.a28 ?_|refine Q14 T.a28 ?_|(refine Bn T.a28 ?_)|refine Q34 T.a28 ?_|(refine Q2 (hu:=T.f39_0) ?_)|(refine Q3 (hu:=T.p37) ?_)|(refine Q31 (hu:=T.p37) ?_)|(refine Q44 (hu:=T.p37) ?_)|(refine Q9 (hu:=T.p37) ?_))|refine R2 ?_|(apply Za;exact rfl;all_goals (intro h;try (exfalso;omega)))|(apply Zy;exact rfl;all_goals intro h)|((fail_if_success (refine Q1 ?_));apply Zb;exact rfl;exact rfl;all_goals (intro h;try (exfalso;omega)))|((fail_if_success (refine Q1 ?_));apply ZW;exact rfl;exact rfl;all_goals intro h)|fail)
 refine Zh (ι:=Nat) (fun y=>[(1,.int .i64 (j:Int)),(7,.pointer (some (adr (bx a3) 0))),(8,.int .i64 (y:Int))])
  (fun y w'=>∃g' cs,Opn w g' w' ix a3 sb dk m k lg st each nn cs key∧cs.length=y∧y≤j∧MN g' w' k lg dk each nn) (fun y=>j - y) 0
  ⟨rfl,rfl,rfl,trivial⟩ ⟨_,[],hO3,rfl,Nat.zero_le _,hSl2.stp (ix:=ix) (T:=[]) (Stq.of_ext hx3 9) (by simp) (by simp) (by simp)⟩ ?_
 rintro y w4 ⟨g4,cs,hO,hcs,hy,hSl⟩
 by_cases hlt:y<j
 ·have b4:=hO.hs.blk
  repeat' (first|refine R1 ?_|(refine Q1 ?_;first|(apply Zi;exact rfl;exact GX _;exact rfl)|refine Q11 T.a28 ?_|refine Q14 T.a28 ?_|(refine Bn T.a28 ?_)|refine Q34 T.a28 ?_|(refine Q2 (hu:=T.f39_0) ?_)|(refine Q3 (hu:=T.p37) ?_)|(refine Q31 (hu:=T.p37) ?_)|(refine Q44 (hu:=T.p37) ?_)|(refine Q9 (hu:=T.p37) ?_))|refine R2 ?_|(apply Za;exact rfl;all_goals (intro h;try (exfalso;omega)))|(apply Zy;exact rfl;all_goals intro h)|((fail_if_success (refine Q1 ?_));apply Zb;exact rfl;exact rfl;all_goals (intro h;try (exfalso;omega)))|((fail_if_success (refine Q1 ?_));apply ZW;exact rfl;exact rfl;all_goals intro h)|fail)
  all_goals try (exfalso;simp only at *;omega)
  refine Q1 ?_
  refine Q12 Cr ⟨0,0,0,none,0,0⟩ T.s67 ?_
  intro p5 w5 hp5 hs5 hb5 hx5 hz5
  refine Q1 ?_;refine Q4 (hc:=Pg (ix:=ix) (b:=100 * (y+1)) (hO.srv.ext hx5 0) (by omega) ⟨by decide,by decide⟩ (by omega) hs5) ?_;rintro _ w6 ⟨g6,x,hxb,hrd,hS6,hV6,hL6,hSe6,hC6⟩;refine Kc ?_
  have hS:Stq ix [8] g4 g6 w4 w6:=(Stq.of_ext hx5 0).trans hS6
  have hO6:Opn w g6 w6 ix a3 sb dk m k lg st each nn (cs++[x]) key:=by
   have h1:=hO.con.stp hS (fun t ht=>by simp at ht;omega)
   refine ⟨hO.bs.stp hS (by simp),hO.hs.stp hS (by simp),hV6,⟨by rw [List.length_append];simp only [List.length_cons,List.length_nil];omega,fun i z hz=>?_⟩,hO.db.stp hS (fun t ht=>by simp at ht;omega),fun i z hz=>?_⟩
   ·rcases Ow hz with hz|⟨e,rfl⟩
    ·exact h1.one i z hz
    ·exact ⟨⟨false,hL6⟩,hSe6,by omega,by have:=hO.bs.ext.size;have:=hx5.size;omega⟩
   ·rcases Ow hz with hz|⟨e,rfl⟩
    ·exact (hO.cli i z hz).stp hS (by have:=(hO.con.one i z hz).2.2.1;simp;omega)
    ·exact hC6
  repeat' (first|refine R1 ?_|(refine Q1 ?_;first|refine Q11 T.a28 ?_|refine Q14 T.a28 ?_|(refine Bn T.a28 ?_)|refine Q34 T.a28 ?_|(refine Q2 (hu:=T.f39_0) ?_)|(refine Q3 (hu:=T.p37) ?_)|(refine Q31 (hu:=T.p37) ?_)|(refine Q44 (hu:=T.p37) ?_)|(refine Q9 (hu:=T.p37) ?_))|refine R2 ?_|(apply Za;exact rfl;all_goals (intro h;try (exfalso;omega)))|(apply Zy;exact rfl;all_goals intro h)|((fail_if_success (refine Q1 ?_));apply Zb;exact rfl;exact rfl;all_goals (intro h;try (exfalso;omega)))|((fail_if_success (refine Q1 ?_));apply ZW;exact rfl;exact rfl;all_goals intro h)|fail)
  exact Zc (y+1) ⟨rfl,rfl,rfl,trivial⟩ ⟨g6,cs++[x],hO6,by rw [List.length_append,hcs];rfl,by omega,hSl.stp hS (by simp) (by simp) (by simp)⟩ (by omega)
 ·obtain rfl:y=j:=by omega
  repeat' (first|refine R1 ?_|(refine Q1 ?_;first|refine Q11 T.a28 ?_|refine Q14 T.a28 ?_|(refine Bn T.a28 ?_)|refine Q34 T.a28 ?_|(refine Q2 (hu:=T.f39_0) ?_)|(refine Q3 (hu:=T.p37) ?_)|(refine Q31 (hu:=T.p37) ?_)|(refine Q44 (hu:=T.p37) ?_)|(refine Q9 (hu:=T.p37) ?_))|refine R2 ?_|(apply Za;exact rfl;all_goals (intro h;try (exfalso;omega)))|(apply Zy;exact rfl;all_goals intro h)|((fail_if_success (refine Q1 ?_));apply Zb;exact rfl;exact rfl;all_goals (intro h;try (exfalso;omega)))|((fail_if_success (refine Q1 ?_));apply ZW;exact rfl;exact rfl;all_goals intro h)|fail)
  all_goals try (exfalso;simp only at *;omega)
  refine Kr Tryz.results7 ?_
  exact ⟨g4,ix,a3,sb,dk,m,k,lg,st,cs,rfl,hO,hcs,hSl⟩
set_option maxRecDepth 20000 in
theorem KQ (hP:Pow w) (hE:CL w):Ctr Tryz.prog 6 [] w (fun v w'=>v=.bool true∧Ext w w'):=by
 refine Ac Tryz.func6 Tryz.ntmps6 rfl rfl rfl ?_
 repeat' (first|refine R1 ?_|(refine Q1 ?_;first|(refine Q4 (f:=8) (hc:=JW) ?_;rintro _ w1 ⟨rfl,hx1⟩;refine Kc ?_)|(refine Q2 (hu:=by (first|exact T.f39_0|exact T.f33_1|exact T.f54_0)) ?_)|(refine Q3 (hu:=by (first|exact T.p37|exact T.p9|exact T.p49)) ?_)|(refine Q31 (hu:=by (first|exact T.p37|exact T.p9|exact T.p49)) ?_)|(refine Q44 (hu:=by (first|exact T.p37|exact T.p9|exact T.p49)) ?_)|(refine Q9 (hu:=by (first|exact T.p37|exact T.p9|exact T.p49)) ?_)|(refine Q6 (hu:=T.s56) ?_))|refine R2 ?_|(apply Za;exact rfl;all_goals (intro h;try (exfalso;omega)))|(apply Zy;exact rfl;all_goals intro h)|((fail_if_success (refine Q1 ?_));apply Zb;exact rfl;exact rfl;all_goals (intro h;try (exfalso;omega)))|((fail_if_success (refine Q1 ?_));apply ZW;exact rfl;exact rfl;all_goals intro h)|fail)
 refine Q1 ?_;refine Q4 (hc:=EK (each:=200) (nn:=2000) (j:=2) (key:=⟨#[97]⟩) (by decide) (by decide) (by decide) (by decide)) ?_;rintro _ w2 ⟨g2,ix,hb,sb,dk,m,k,lg,st,cs,rfl,hO2,hcs,-⟩;refine Kc ?_
 have hH2:=hO2.hse
 have b2:=hH2.hs.blk
 obtain ⟨x0,hx0⟩:=Aj (xs:=cs) (k:=0) (by omega)
 obtain ⟨x1,hx1'⟩:=Aj (xs:=cs) (k:=1) (by omega)
 have hcl:=hO2.con.len
 repeat' (first|refine R1 ?_|(refine Q1 ?_;first|(refine Q4 (f:=16) (hc:=Me hO2.srv (by omega) (by decide) (fun i x hx=>⟨(hO2.con.one i x hx).1,none,0,[],_,(hO2.con.one i x hx).2.1⟩)) ?_;rintro _ w3 ⟨p3,c3,ws,rfl,hl3,_,_,hx3⟩;refine Kc ?_;replace b2:=b2.ext (Kx hx3))|(refine Q15 Tryz.underlying23 (t:=23) ?_)|(refine Q15 Tryz.underlying46 (t:=46) ?_)|(refine Q4 (f:=14) (hc:=IC (hO2.srv.ext hx3 0)) ?_;rintro _ _ ⟨rfl,rfl⟩;refine Kc ?_)|(refine Q2 (hu:=by (first|exact T.f39_0|exact T.f33_1|exact T.f54_0)) ?_)|(refine Q3 (hu:=by (first|exact T.p37|exact T.p9|exact T.p49)) ?_)|(refine Q31 (hu:=by (first|exact T.p37|exact T.p9|exact T.p49)) ?_)|(refine Q44 (hu:=by (first|exact T.p37|exact T.p9|exact T.p49)) ?_)|(refine Q9 (hu:=by (first|exact T.p37|exact T.p9|exact T.p49)) ?_)|(refine Q6 (hu:=T.s56) ?_))|refine R2 ?_|(apply Za;exact rfl;all_goals (intro h;try (exfalso;omega)))|(apply Zy;exact rfl;all_goals intro h)|((fail_if_success (refine Q1 ?_));apply Zb;exact rfl;exact rfl;all_goals (intro h;try (exfalso;omega)))|((fail_if_success (refine Q1 ?_));apply ZW;exact rfl;exact rfl;all_goals intro h)|fail)
 have hP1:Pow w1:=FD hP hx1
 have hE1:CL w1:=CL.ext hE hx1
 refine Q1 ?_
 refine Q24 Ar [Hz,⟨#[97]⟩,⟨#[49]⟩] T.s61 ?_
 intro p4 w4 ho4 hx4 hz4
 have hx24:=hx3.trans hx4
 have hC0:=(hO2.cli 0 x0 hx0).ext hx24 0
 refine Q1 ?_;refine Q4 (hc:=KN (hH2.xt hx24 0) hP1 hE1 hx0 (by decide) (hO2.db.stp (T:=[]) (Stq.of_ext hx24 0) (fun t ht=>by cases ht)) hC0 ho4.sl (by decide) (by decide) (by decide) (by decide) (by decide) (by decide) (by decide) (by decide)) ?_;rintro _ w5 ⟨R5,r5,g5,rfl,e51,e52,e53,hS5,hH5,hW5⟩;refine Kc ?_
 obtain ⟨rfl,y,y1,y2,y3,hD5⟩:=hW5
 repeat' (first|refine R1 ?_|(refine Q1 ?_;first|(refine Q2 (hu:=by (first|exact T.f39_0|exact T.f33_1|exact T.f54_0)) ?_)|(refine Q3 (hu:=by (first|exact T.p37|exact T.p9|exact T.p49)) ?_)|(refine Q31 (hu:=by (first|exact T.p37|exact T.p9|exact T.p49)) ?_)|(refine Q44 (hu:=by (first|exact T.p37|exact T.p9|exact T.p49)) ?_)|(refine Q9 (hu:=by (first|exact T.p37|exact T.p9|exact T.p49)) ?_)|(refine Q6 (hu:=T.s56) ?_))|refine R2 ?_|(apply Za;exact rfl;all_goals (intro h;try (exfalso;omega)))|(apply Zy;exact rfl;all_goals intro h)|((fail_if_success (refine Q1 ?_));apply Zb;exact rfl;exact rfl;all_goals (intro h;try (exfalso;omega)))|((fail_if_success (refine Q1 ?_));apply ZW;exact rfl;exact rfl;all_goals intro h)|fail)
 refine Q1 ?_;refine Q7 T.zero33 ?_;intro a6 w6 ha6 hA6 hx6 hs6
 repeat' (first|refine R1 ?_|(refine Q1 ?_;first|(refine Q2 (hu:=by (first|exact T.f39_0|exact T.f33_1|exact T.f54_0)) ?_)|(refine Q3 (hu:=by (first|exact T.p37|exact T.p9|exact T.p49)) ?_)|(refine Q31 (hu:=by (first|exact T.p37|exact T.p9|exact T.p49)) ?_)|(refine Q44 (hu:=by (first|exact T.p37|exact T.p9|exact T.p49)) ?_)|(refine Q9 (hu:=by (first|exact T.p37|exact T.p9|exact T.p49)) ?_)|(refine Q6 (hu:=T.s56) ?_))|refine R2 ?_|(apply Za;exact rfl;all_goals (intro h;try (exfalso;omega)))|(apply Zy;exact rfl;all_goals intro h)|((fail_if_success (refine Q1 ?_));apply Zb;exact rfl;exact rfl;all_goals (intro h;try (exfalso;omega)))|((fail_if_success (refine Q1 ?_));apply ZW;exact rfl;exact rfl;all_goals intro h)|fail)
 refine Q1 ?_;refine Q5 T.z33 hA6 ?_;intro w7 hA7 hg7 hs7
 replace hA7:Blk w7.heap a6 33 (Aq.enc r5):=hA7
 repeat' (first|refine R1 ?_|(refine Q1 ?_;first|(refine Q2 (hu:=by (first|exact T.f39_0|exact T.f33_1|exact T.f54_0)) ?_)|(refine Q3 (hu:=by (first|exact T.p37|exact T.p9|exact T.p49)) ?_)|(refine Q31 (hu:=by (first|exact T.p37|exact T.p9|exact T.p49)) ?_)|(refine Q44 (hu:=by (first|exact T.p37|exact T.p9|exact T.p49)) ?_)|(refine Q9 (hu:=by (first|exact T.p37|exact T.p9|exact T.p49)) ?_)|(refine Q6 (hu:=T.s56) ?_))|refine R2 ?_|(apply Za;exact rfl;all_goals (intro h;try (exfalso;omega)))|(apply Zy;exact rfl;all_goals intro h)|((fail_if_success (refine Q1 ?_));apply Zb;exact rfl;exact rfl;all_goals (intro h;try (exfalso;omega)))|((fail_if_success (refine Q1 ?_));apply ZW;exact rfl;exact rfl;all_goals intro h)|fail)
 have hb0:=(hO2.con.one 0 x0 hx0).2.2.1
 have hb1:=(hO2.con.one 1 x1 hx1').2.2.1
 have hx57:Ext w5 w7:=hx6.own hg7 (fun k hk=>by injection hk;omega)
 have hK7:Bk (rt g5 w5 0) w7 0 a6 33 _:=Bk.new hA7 (by omega) (by unfold ixT;decide)
 have hC1:=(((hO2.cli 1 x1 hx1').ext hx24 0).stp hS5 (by simp;omega)).ext hx57 0
 refine Q1 ?_
 refine Q24 Ar [EW,⟨#[97]⟩] T.s61 ?_
 intro p8 w8 ho8 hx8 hz8
 have hs1:∀v∈([]:List Ver)++[y.v ((0+1:Nat):Int)],v.val.text.size≤2000:=fun v hv=>by
  simp only [List.nil_append,List.mem_singleton] at hv
  subst hv
  show y.val.text.size≤2000
  rw [y3];decide
 refine Q1 ?_;refine Q4 (hc:=Qp ((hH5.xt hx57 0).xt hx8 0) hP1 hE1 hx1' (by decide) ((hD5.stp (T:=[]) (Stq.of_ext hx57 0) (fun t ht=>by cases ht)).stp (T:=[]) (Stq.of_ext hx8 0) (fun t ht=>by cases ht)) (hC1.ext hx8 0) ho8.sl (by decide) (by decide) (by decide) (by decide) hs1) ?_;rintro _ w9 ⟨R9,r9,g9,rfl,e91,e92,e93,hS9,hH9,hW9⟩;refine Kc ?_
 obtain ⟨⟨r0,ok,rfl,hSn⟩,hD9⟩:=hW9
 have hK9:=(hK7.ext hx8 0).stp hS9 (by simp;omega)
 repeat' (first|refine R1 ?_|(refine Q1 ?_;first|(refine Q2 (hu:=by (first|exact T.f39_0|exact T.f33_1|exact T.f54_0)) ?_)|(refine Q3 (hu:=by (first|exact T.p37|exact T.p9|exact T.p49)) ?_)|(refine Q31 (hu:=by (first|exact T.p37|exact T.p9|exact T.p49)) ?_)|(refine Q44 (hu:=by (first|exact T.p37|exact T.p9|exact T.p49)) ?_)|(refine Q9 (hu:=by (first|exact T.p37|exact T.p9|exact T.p49)) ?_)|(refine Q6 (hu:=T.s56) ?_))|refine R2 ?_|(apply Za;exact rfl;all_goals (intro h;try (exfalso;omega)))|(apply Zy;exact rfl;all_goals intro h)|((fail_if_success (refine Q1 ?_));apply Zb;exact rfl;exact rfl;all_goals (intro h;try (exfalso;omega)))|((fail_if_success (refine Q1 ?_));apply ZW;exact rfl;exact rfl;all_goals intro h)|fail)
 refine Q1 ?_;refine Q7 T.zero33 ?_;intro a10 w10 ha10 hA10 hx10 hs10
 repeat' (first|refine R1 ?_|(refine Q1 ?_;first|(refine Q2 (hu:=by (first|exact T.f39_0|exact T.f33_1|exact T.f54_0)) ?_)|(refine Q3 (hu:=by (first|exact T.p37|exact T.p9|exact T.p49)) ?_)|(refine Q31 (hu:=by (first|exact T.p37|exact T.p9|exact T.p49)) ?_)|(refine Q44 (hu:=by (first|exact T.p37|exact T.p9|exact T.p49)) ?_)|(refine Q9 (hu:=by (first|exact T.p37|exact T.p9|exact T.p49)) ?_)|(refine Q6 (hu:=T.s56) ?_))|refine R2 ?_|(apply Za;exact rfl;all_goals (intro h;try (exfalso;omega)))|(apply Zy;exact rfl;all_goals intro h)|((fail_if_success (refine Q1 ?_));apply Zb;exact rfl;exact rfl;all_goals (intro h;try (exfalso;omega)))|((fail_if_success (refine Q1 ?_));apply ZW;exact rfl;exact rfl;all_goals intro h)|fail)
 refine Q1 ?_;refine Q5 T.z33 hA10 ?_;intro w11 hA11 hg11 hs11
 replace hA11:Blk w11.heap a10 33 (Aq.enc r9):=hA11
 have hx911:Ext w9 w11:=hx10.own hg11 (fun k hk=>by injection hk;omega)
 have hA7':=(hK9.ext hx911 0).blk
 have q5:r5.s=⟨#[79,75]⟩:=e52
 have q9:r9.s=⟨#[49]⟩:=by
  rw [e92]
  rcases DY (Int.le_refl _) hSn with ⟨_,_,_,h4,h5⟩|⟨h1,_⟩
  ·unfold Gp Dp
   rw [h4,h5]
   exact y3
  ·exact absurd ⟨y1,.inl y2⟩ h1
 have hH11:=hH9.xt hx911 0
 have bH:=hH11.hs.blk
 have hD11:=hD9.stp (T:=[]) (Stq.of_ext hx911 0) (fun t ht=>by cases ht)
 obtain ⟨⟨pa,ca,hMb,-⟩,-⟩:=hD11.mgr
 have bM:=hMb.blk
 obtain ⟨⟨F,hF,-⟩,-⟩:=hD11.sto
 repeat' (first|refine R1 ?_|(refine Q1 ?_;first|(refine Q35 (he:=q5) ?_)|(refine Q35 (he:=q9) ?_)|(refine Q4 (f:=14) (hc:=IC hH11.srv) ?_;rintro _ _ ⟨rfl,rfl⟩;refine Kc ?_)|(refine Q4 (f:=15) (hc:=GJ hF) ?_;rintro _ _ ⟨rfl,rfl⟩;refine Kc ?_)|(refine Q2 (hu:=by (first|exact T.f39_0|exact T.f33_1|exact T.f54_0)) ?_)|(refine Q3 (hu:=by (first|exact T.p37|exact T.p9|exact T.p49)) ?_)|(refine Q31 (hu:=by (first|exact T.p37|exact T.p9|exact T.p49)) ?_)|(refine Q44 (hu:=by (first|exact T.p37|exact T.p9|exact T.p49)) ?_)|(refine Q9 (hu:=by (first|exact T.p37|exact T.p9|exact T.p49)) ?_)|(refine Q6 (hu:=T.s56) ?_))|refine R2 ?_|(apply Za;exact rfl;all_goals (intro h;try (exfalso;omega)))|(apply Zy;exact rfl;all_goals intro h)|((fail_if_success (refine Q1 ?_));apply Zb;exact rfl;exact rfl;all_goals (intro h;try (exfalso;omega)))|((fail_if_success (refine Q1 ?_));apply ZW;exact rfl;exact rfl;all_goals intro h)|fail)
 refine Kr Tryz.results6 ?_
 exact ⟨congrArg Value.bool (decide_eq_true (by decide)),hx1.trans hH11.bs.ext⟩
def sKf:ByteArray:=⟨#[107]⟩
def Rc:ByteArray:=⟨#[110,101,119]⟩
def LZ:ByteArray:=⟨#[76,79,71,70,85,76,76]⟩
theorem GM (z:Int) (w:World):(Instr.build 26 [(0,Value.int .i64 40),(1,Value.int .i64 z)].toArray).run Tryz.prog w=.ok (.agg #[.int .i64 40,.int .i64 z]) w:=by kernel_rfl
theorem JJ (z:Int) (w:World):(Instr.build 28 [(0,Value.agg #[.int .i64 40,.int .i64 z])].toArray).run Tryz.prog w=.ok (.agg #[.int .i64 40,.int .i64 z]) w:=by kernel_rfl
structure BV (B:ByteArray) (vs:List Ver) (k:Nat):Prop where
 len:vs.length=k
 ver:∀(i:Nat) v,vs[i]?=some v→v.stamp=((i+1:Nat):Int)∧v.gone=false∧v.exp=0∧v.val.text=B++CK (i:Int)∧v.val.kind=1
theorem BV.nil {B:ByteArray}:BV B [] 0:=⟨rfl,fun i v h=>by simp at h⟩
theorem BV.snoc {B:ByteArray} {vs:List Ver} {k:Nat} (h:BV B vs k) {v:Ver} (h1:v.stamp=((k+1:Nat):Int)) (h2:v.gone=false) (h3:v.exp=0) (h4:v.val.text=B++CK (k:Int)) (h5:v.val.kind=1):BV B (vs++[v]) (k+1) :=
 ⟨by rw [List.length_append,h.len];rfl,fun i x hx=>by
  rcases Ow hx with hx|⟨e,rfl⟩
  ·exact h.ver i x hx
  ·rw [e,h.len];exact ⟨h1,h2,h3,h4,h5⟩⟩
theorem BV.stamp {B:ByteArray} {vs:List Ver} {k:Nat} (h:BV B vs k):∀x∈vs,x.stamp≤(k:Int):=fun x hx=>by
 obtain ⟨i,hi⟩:=List.getElem?_of_mem hx
 have:=(h.ver i x hi).1
 have:=AR hi
 have:=h.len
 omega
theorem JL {vs:List Ver} {k:Nat} (h:∀x∈vs,x.stamp≤(k:Int)):lastOf vs vs.length≤(k:Int):=by
 unfold lastOf
 split
 ·omega
 ·cases hv:vs[vs.length - 1]? with
  | none=>simp only;omega
  | some v=>exact h v (List.mem_of_getElem? hv)
theorem BV.small {B:ByteArray} {vs:List Ver} {k:Nat} (h:BV B vs k) (hk:k≤100) (hB:B.size≤300):∀v∈vs,v.val.text.size≤2000:=fun v hv=>by
 obtain ⟨i,hi⟩:=List.getElem?_of_mem hv
 rw [(h.ver i v hi).2.2.2.1,ByteArray.size_append]
 have:=AR hi
 have:=h.len
 have:=Ex (n:=(i:Int)) (by unfold AC;omega)
 omega
theorem Ig {vs:List Ver} {v:Ver} {s c:Int} (hv:v.stamp≤s) (hvs:∀x∈vs,x.stamp≤s) (ha:Eh v c):Gd (vs++[v]) s c v :=
 ⟨vs.length+1,⟨by simp,fun i y hi hy=>by
  rcases Ow hy with hy|⟨_,rfl⟩
  ·exact hvs y (List.mem_of_getElem? hy)
  ·exact hv,fun i y hi hy=>by
  have:=AR hy
  simp at this
  omega⟩,by omega,by simp,ha⟩
theorem Ie {vs:List Ver} {v:Ver} {s c:Int} {r:Aw} {ok:Bool} (hv:v.stamp≤s) (hvs:∀x∈vs,x.stamp≤s) (ha:Eh v c) (h:Dv (vs++[v]) s c r ok):r.raw.kind=v.val.kind∧r.raw.text=v.val.text:=by
 have h0:=Ig hv hvs ha
 cases ok with
 | false=>exact absurd h0 ((h.1 rfl).2 v)
 | true =>
  obtain ⟨y,⟨n,⟨u1,u2,u3⟩,hn,hy,_⟩,h2⟩:=h.2 rfl
  have hn':n=vs.length+1:=by
   rcases Nat.lt_or_ge n (vs++[v]).length with hlt|hge
   ·obtain ⟨z,hz⟩:=Aj hlt
    have h3:=u3 n z (Nat.le_refl _) hz
    rcases Ow hz with hz|⟨_,rfl⟩
    ·have:=hvs z (List.mem_of_getElem? hz);omega
    ·omega
   ·simp at hge u1;omega
  subst hn'
  simp at hy
  subst hy
  have h3:=(h2 #[]).val
  exact ⟨h3.kind,h3.text⟩
set_option maxRecDepth 20000 in
theorem Nn {r:Bg} {w:World} (hk:r.kind=1) (hs:r.s=Bw):Ctr Tryz.prog 13 [.agg (Aq.enc r).toArray,.string LZ] w (fun v w'=>v=.bool true∧Ext w w'):=by
 obtain ⟨kd,s,n,p,l,c⟩:=r
 simp only at hk hs
 subst hk hs
 refine Ac Tryz.func13 Tryz.ntmps13 rfl rfl rfl ?_
 repeat' (first|refine R1 ?_|(refine Q1 ?_;first|(refine Q2 (hu:=by (first|exact T.f33_0|exact T.f33_1)) ?_)|(refine Q3 (hu:=by (first|exact T.p3|exact T.p9)) ?_)|(refine Q31 (hu:=by (first|exact T.p3|exact T.p9)) ?_)|(refine Q44 (hu:=by (first|exact T.p3|exact T.p9)) ?_)|(refine Q9 (hu:=by (first|exact T.p3|exact T.p9)) ?_)|refine Q17 T.str9 ?_|refine Q92 T.str9 ?_)|refine R2 ?_|(apply Za;exact rfl;all_goals (intro h;try (exfalso;omega)))|(apply Zy;exact rfl;all_goals intro h)|((fail_if_success (refine Q1 ?_));apply Zb;exact rfl;exact rfl;all_goals (intro h;try (exfalso;omega)))|((fail_if_success (refine Q1 ?_));apply ZW;exact rfl;exact rfl;all_goals intro h)|fail)
 refine Q1 ?_;refine Q8 ?_;intro a2 w1 ha2 hA2 hx1 hs1
 replace hA2:Blk w1.heap a2 33 (Aq.enc ⟨1,Bw,n,p,l,c⟩):=hA2
 repeat' (first|refine R1 ?_|(refine Q1 ?_;first|(refine Q92 T.str9 (h0:=Int.natCast_nonneg _) (h1:=(show ((LZ).size:Int)≤((Bw).size:Int) by decide)) ?_)|(refine Q35 (he:=(show (Bw).extract 0 (((LZ).size:Int)).toNat=LZ by decide)) ?_)|(refine Q2 (hu:=by (first|exact T.f33_0|exact T.f33_1)) ?_)|(refine Q3 (hu:=by (first|exact T.p3|exact T.p9)) ?_)|(refine Q31 (hu:=by (first|exact T.p3|exact T.p9)) ?_)|(refine Q44 (hu:=by (first|exact T.p3|exact T.p9)) ?_)|(refine Q9 (hu:=by (first|exact T.p3|exact T.p9)) ?_)|refine Q17 T.str9 ?_|refine Q92 T.str9 ?_)|refine R2 ?_|(apply Za;exact rfl;all_goals (intro h;try (exfalso;omega)))|(apply Zy;exact rfl;all_goals intro h)|((fail_if_success (refine Q1 ?_));apply Zb;exact rfl;exact rfl;all_goals (intro h;try (exfalso;omega)))|((fail_if_success (refine Q1 ?_));apply ZW;exact rfl;exact rfl;all_goals intro h)|fail)
 refine Kr Tryz.results13 ?_
 exact ⟨rfl,hx1⟩
set_option maxRecDepth 20000 in
theorem PP {r:Bg} {w:World} (hk:r.kind=0):Ctr Tryz.prog 13 [.agg (Aq.enc r).toArray,.string LZ] w (fun v w'=>v=.bool false∧Ext w w'):=by
 obtain ⟨kd,s,n,p,l,c⟩:=r
 simp only at hk
 subst hk
 refine Ac Tryz.func13 Tryz.ntmps13 rfl rfl rfl ?_
 repeat' (first|refine R1 ?_|(refine Q1 ?_;first|(refine Q2 (hu:=by (first|exact T.f33_0|exact T.f33_1)) ?_)|(refine Q3 (hu:=by (first|exact T.p3|exact T.p9)) ?_)|(refine Q31 (hu:=by (first|exact T.p3|exact T.p9)) ?_)|(refine Q44 (hu:=by (first|exact T.p3|exact T.p9)) ?_)|(refine Q9 (hu:=by (first|exact T.p3|exact T.p9)) ?_)|refine Q17 T.str9 ?_|refine Q92 T.str9 ?_)|refine R2 ?_|(apply Za;exact rfl;all_goals (intro h;try (exfalso;omega)))|(apply Zy;exact rfl;all_goals intro h)|((fail_if_success (refine Q1 ?_));apply Zb;exact rfl;exact rfl;all_goals (intro h;try (exfalso;omega)))|((fail_if_success (refine Q1 ?_));apply ZW;exact rfl;exact rfl;all_goals intro h)|fail)
 refine Q1 ?_;refine Q8 ?_;intro a2 w1 ha2 hA2 hx1 hs1
 replace hA2:Blk w1.heap a2 33 (Aq.enc ⟨0,s,n,p,l,c⟩):=hA2
 repeat' (first|refine R1 ?_|(refine Q1 ?_;first|(refine Q2 (hu:=by (first|exact T.f33_0|exact T.f33_1)) ?_)|(refine Q3 (hu:=by (first|exact T.p3|exact T.p9)) ?_)|(refine Q31 (hu:=by (first|exact T.p3|exact T.p9)) ?_)|(refine Q44 (hu:=by (first|exact T.p3|exact T.p9)) ?_)|(refine Q9 (hu:=by (first|exact T.p3|exact T.p9)) ?_)|refine Q17 T.str9 ?_|refine Q92 T.str9 ?_)|refine R2 ?_|(apply Za;exact rfl;all_goals (intro h;try (exfalso;omega)))|(apply Zy;exact rfl;all_goals intro h)|((fail_if_success (refine Q1 ?_));apply Zb;exact rfl;exact rfl;all_goals (intro h;try (exfalso;omega)))|((fail_if_success (refine Q1 ?_));apply ZW;exact rfl;exact rfl;all_goals intro h)|fail)
 refine Kr Tryz.results13 ?_
 exact ⟨rfl,hx1⟩
end Go.Proofs.YtkcolpfanmdmiaaGreatDoor
namespace Go.V
variable {ops : Array Oper} {dr : Nat × List Nat} {l : List Oper} {K : Env → World → Prop}
variable {d : Option Nat} {ty : TypeId} {pos : String} {af : Array Edge} {g : Option (Nat × Bool)} {x y : Operand} {t t' : Nat} {s' : ByteArray}
theorem Q132 (he:s=s') (h:G P n ops dr l (E.put d (.bool false)) w K) (hx:E.look x=some (.string s):=by exact rfl) (hy:E.look y=some (.string s'):=by exact rfl) (hd:Ah n d=true:=by exact rfl):G1 P n ops dr ⟨d,.binOp .neq t x y t',ty,pos,af,g⟩ l E w K :=
 Zag hx hy hd (by rw [decide_eq_false (fun hn=>hn he)];exact h)
variable {Q : Exit → Act → World → Prop}
theorem Zbp {ι:Type} {id:Nat} {l:Array Oper} {b:Bool} {y:Code} (E0:ι→Env) (J:ι→World→Prop) (h1:W P n (.region id l b) (fun e a w'=>e=.normal∧∃i,Holds n (E0 i) a∧J i w') E w) (h2:∀i w',J i w'→W P n y Q (E0 i) w'):W P n (.seq (.region id l b) y) Q E w:=by
 unfold W at *
 exact fun a ha=>wp_seq (wp_mono (h1 a ha) (fun e a w' ⟨he,i,hh,hj⟩=>by subst he;exact h2 i w' hj a hh))
theorem Zbo {ι:Type} {E0:ι→Env} {J:ι→World→Prop} (i:ι) (hE:Env.sub (E0 i) E) (hJ:J i w) (hD:Env.dks (E0 i) E:=by exact rfl):Post n (fun e a w'=>e=.normal∧∃i,Holds n (E0 i) a∧J i w') .normal E w:=by
 unfold Post
 exact fun _ ha=>⟨rfl,i,ha.sub hE hD,hJ⟩
end Go.V
namespace Go.Proofs.YtkcolpfanmdmiaaGreatDoor
open Go.V Go.RowKit Go.Conc
theorem Hse.s50 {W0:World} {g g':Nat→Nat} {w w':World} {ix hb sb dk m k n:Nat} {slot log clk:Int} {cs:List Cn} (h:Hse W0 g w ix hb sb dk m k slot log clk cs n) (s:Stq ix [50] g g' w w'):Hse W0 g' w' ix hb sb dk m k slot log clk cs n:=by
 obtain ⟨ou,hc⟩:=h.con
 exact ⟨h.bs.stp s (by decide),h.hs.stp s (by decide),h.srv.stp s (by decide),ou,hc.stp s (fun t ht=>by simp at ht;omega)⟩
variable {w' : World} {g' : Nat → Nat} {hb : Nat} {x0 : Cn} {cnt N : Nat} {p4 : Option Addr} {xs : List UInt8} {Ψ : (Nat → Nat) → World → Prop} {o : Option Nat} {a : Nat} {r : Bg}
structure OU (W0:World) (ix hb sb dk m k:Nat) (cs:List Cn) (x0:Cn) (so nn N:Nat) (p4:Option Addr) (xs:List UInt8) (cnt:Nat) (Ψ:(Nat→Nat)→World→Prop) (g:Nat→Nat) (w:World):Prop where
 H:Hse W0 g w ix hb sb dk m k (40:Nat) nn 0 cs cnt
 P:Ψ g w
 C:Bk g w (x0.b+4) x0.cl 190 [.pointer (some (adr (bx m) 0)),.pointer none]
 B:SlT g w 0 Ai p4 N xs
 S:Bk g w 6 so 164 (slC dk 0)
 b0:100≤x0.b
 st:∀g g' w w',Stq ix [50] g g' w w'→Ψ g w→Ψ g' w'
theorem OU.s50 (h:OU W0 ix hb sb dk m k cs x0 so nn N p4 xs cnt Ψ g w) (s:Stq ix [50] g g' w w'):OU W0 ix hb sb dk m k cs x0 so nn N p4 xs cnt Ψ g' w' :=
 ⟨h.H.s50 s,h.st _ _ _ _ s h.P,h.C.stp s (by have:=h.b0;simp;omega),h.B.stp s (by decide),h.S.stp s (by decide),h.b0,h.st⟩
def Rb:Bg:=⟨0,ByteArray.empty,0,none,0,0⟩
def Ful (W0:World) (ix hb sb dk m k:Nat) (cs:List Cn) (x0:Cn) (so nn N:Nat) (p4:Option Addr) (xs:List UInt8) (cnt:Nat) (Ψ:(Nat→Nat)→World→Prop) (o:Option Nat) (w:World):Prop :=
 ∃g,OU W0 ix hb sb dk m k cs x0 so nn N p4 xs cnt Ψ g w∧∀a,o=some a→Bk g w 50 a 33 (Aq.enc Rb)
theorem Ful.ext (h:Ful W0 ix hb sb dk m k cs x0 so nn N p4 xs cnt Ψ o w) (hx:Ext w w'):Ful W0 ix hb sb dk m k cs x0 so nn N p4 xs cnt Ψ o w':=by
 obtain ⟨g,h1,h2⟩:=h
 exact ⟨rt g w 0,h1.s50 (Stq.of_ext hx 0),fun a ha=>(h2 a ha).ext hx 0⟩
theorem Ful.alloc (h:Ful W0 ix hb sb dk m k cs x0 so nn N p4 xs cnt Ψ none w) (hx:Ext w w') (ha:w.heap.size≤a) (hA:Blk w'.heap a 33 (Aq.enc Rb)):Ful W0 ix hb sb dk m k cs x0 so nn N p4 xs cnt Ψ (some a) w':=by
 obtain ⟨g,h1,h2⟩:=h
 refine ⟨rt g w 50,h1.s50 (Stq.of_ext hx 50),fun b hb=>?_⟩
 obtain rfl:=Option.some.inj hb
 exact Bk.new hA ha (by unfold ixT;decide)
theorem Ful.box (h:Ful W0 ix hb sb dk m k cs x0 so nn N p4 xs cnt Ψ (some a) w):Blk w.heap a 33 (Aq.enc Rb):=by
 obtain ⟨g,h1,h2⟩:=h
 exact (h2 a rfl).blk
theorem Ful.put (h:Ful W0 ix hb sb dk m k cs x0 so nn N p4 xs cnt Ψ (some a) w) (hg:w.grownBy w' (some a)) (hq:Blk w'.heap a 33 (Aq.enc r)):∃g,OU W0 ix hb sb dk m k cs x0 so nn N p4 xs cnt Ψ g w'∧Bk g w' 50 a 33 (Aq.enc r):=by
 obtain ⟨g,h1,h2⟩:=h
 have hB:=h2 a rfl
 exact ⟨rt g w 0,h1.s50 (hB.stpG hg 0 (by simp)),hB.turned hq⟩
variable {q : Option Addr} {dq : Nat}
theorem Qc (hP:Pow W0) (hE:CL W0) (hi:cs[0]?=some x0) (hn:cnt≤190) (hvl:vs.length≤59) (hfit:last+1≤100000) (hcl:lastOf vs vs.length≤(last:Int)) (hs:s.size≤4096) (hu:used≤nn)
  (hF:Ful W0 ix hb sb dk m k cs x0 so nn N p4 xs cnt (fun g w=>DbG g w ix st k m lg dk sKf vs last 0 0 [] nn used 80 (.pointer (some (adr (bx so) 0)))) o w) (hM:Sl w.heap Ar q dq [Hz,sKf,s]) :
  Ctr Tryz.prog 10 [.pointer (some (adr (bx hb) 0)),.int .i64 ((0:Nat):Int),.slice q 3 dq] w (fun v w'=>∃r,v=.agg (Aq.enc r).toArray∧Ful W0 ix hb sb dk m k cs x0 so nn N p4 xs (cnt+4) (fun g w=>∃R,r.kind=R.kind∧r.s=R.s∧CQ ix st m k lg dk sKf vs last 0 0 [] nn used 80 (.pointer (some (adr (bx so) 0))) s R g w) o w'):=by
 obtain ⟨g,h1,h2⟩:=hF
 have hb0:=h1.b0
 refine (KO h1.H hP hE hi hn h1.P h1.C hM (by simp) hvl hfit hcl (by decide) hs (by decide) hu).mono ?_
 rintro v w' ⟨R,r,g',rfl,e1,e2,e3,hS,hH,hW⟩
 exact ⟨r,rfl,g',⟨hH,⟨R,e1,e2,hW⟩,h1.C.stp hS (by simp;omega),h1.B.stp hS (by simp;omega),h1.S.stp hS (by simp;omega),hb0,
  fun _ _ _ _ s ⟨R,q1,q2,q3⟩=>⟨R,q1,q2,q3.stp s (fun t ht=>by simp at ht;omega)⟩⟩,fun a ha=>(h2 a ha).stp hS (by simp;omega)⟩
set_option maxRecDepth 20000 in
theorem IL {log size:Int} (hf1:AC log) (hf2:AC size) (hP:Pow w) (hE:CL w):Ctr Tryz.prog 4 [.int .i64 log,.int .i64 size] w (fun v w'=>v=.bool true∧Ext w w'):=by
 obtain ⟨nn,hnn⟩:∃nn:Nat,2+log % 20=(nn:Int):=⟨(2+log % 20).toNat,by omega⟩
 obtain ⟨N,hN⟩:∃N:Nat,size % 300=(N:Int):=⟨(size % 300).toNat,by omega⟩
 have hn1:2≤nn∧nn≤21:=by omega
 have hN1:N≤299:=by omega
 refine Ac Tryz.func4 Tryz.ntmps4 rfl rfl rfl ?_
 repeat' (first|refine R1 ?_|(refine Q1 ?_;first|(refine Q4 (f:=6) (hc:=KQ hP hE) ?_;rintro _ w1 ⟨rfl,hx1⟩;refine Kc ?_)|(refine Q4 (f:=9) (hc:=LY (by decide) (by decide) hf1) ?_;rintro _ _ ⟨rfl,rfl⟩;refine Kc ?_)|(apply Zi;exact rfl;exact GM _;exact rfl)|(apply Zi;exact rfl;exact JJ _;exact rfl)|(refine Q6 (hu:=T.s40) ?_)|refine Q13 T.s40 ?_|refine Q25 T.s40 ?_|refine Q11 T.a33 ?_|refine Q14 T.a33 ?_|(refine Bn T.a33 ?_)|refine Q34 T.a33 ?_|(refine Q2 (hu:=by (first|exact T.f33_1|exact T.f39_0|exact T.f54_0|exact T.f33_0)) ?_)|(refine Q3 (hu:=by (first|exact T.p9|exact T.p37|exact T.p49|exact T.p3)) ?_)|refine Q31 ?_|refine Q44 ?_|(refine Q9 (hu:=by (first|exact T.p9|exact T.p37|exact T.p49|exact T.p3)) ?_)|(refine Q41 T.fv33_1 ?_;exact rfl))|refine R2 ?_|(apply Za;exact rfl;all_goals (intro h;try (exfalso;omega)))|(apply Zy;exact rfl;all_goals intro h)|((fail_if_success (refine Q1 ?_));apply Zb;exact rfl;exact rfl;all_goals (intro h;try (exfalso;omega)))|((fail_if_success (refine Q1 ?_));apply ZW;exact rfl;exact rfl;all_goals intro h)|refine Zf 1 [] [0,1,2,3,4,5,6,7,8] mixed (by decide +kernel) ?_|refine Zl 1 [] (.node [0,1,2,3] (.alt 4 (.node [5] (.alt 6 (.node [] (.alt 7 (.leaf [8,9]) (.alt 8 (.leaf [7,9]) .stop))) (.alt 8 (.leaf [6,7,9]) .stop))) (.alt 8 (.leaf [4,5,6,7,9]) .stop))) mixed (by decide +kernel) ?_|refine BH ?_|refine BN ?_|apply Zv|exact Zq|fail)
 rw [hnn]
 repeat' (first|refine R1 ?_|(refine Q1 ?_;first|(apply Zi;exact rfl;exact GM _;exact rfl)|(apply Zi;exact rfl;exact JJ _;exact rfl)|(refine Q6 (hu:=T.s40) ?_)|refine Q13 T.s40 ?_|refine Q25 T.s40 ?_|refine Q11 T.a33 ?_|refine Q14 T.a33 ?_|(refine Bn T.a33 ?_)|refine Q34 T.a33 ?_|(refine Q2 (hu:=by (first|exact T.f33_1|exact T.f39_0|exact T.f54_0|exact T.f33_0)) ?_)|(refine Q3 (hu:=by (first|exact T.p9|exact T.p37|exact T.p49|exact T.p3)) ?_)|refine Q31 ?_|refine Q44 ?_|(refine Q9 (hu:=by (first|exact T.p9|exact T.p37|exact T.p49|exact T.p3)) ?_)|(refine Q41 T.fv33_1 ?_;exact rfl))|refine R2 ?_|(apply Za;exact rfl;all_goals (intro h;try (exfalso;omega)))|(apply Zy;exact rfl;all_goals intro h)|((fail_if_success (refine Q1 ?_));apply Zb;exact rfl;exact rfl;all_goals (intro h;try (exfalso;omega)))|((fail_if_success (refine Q1 ?_));apply ZW;exact rfl;exact rfl;all_goals intro h)|refine Zf 1 [] [0,1,2,3,4,5,6,7,8] mixed (by decide +kernel) ?_|refine Zl 1 [] (.node [0,1,2,3] (.alt 4 (.node [5] (.alt 6 (.node [] (.alt 7 (.leaf [8,9]) (.alt 8 (.leaf [7,9]) .stop))) (.alt 8 (.leaf [6,7,9]) .stop))) (.alt 8 (.leaf [4,5,6,7,9]) .stop))) mixed (by decide +kernel) ?_|refine BH ?_|refine BN ?_|apply Zv|exact Zq|fail)
 refine Q1 ?_;refine Q4 (hc:=EK (each:=40) (nn:=nn) (j:=1) (key:=sKf) (by decide) (by decide) (by omega) (by omega)) ?_;rintro _ w3 ⟨g3,ix,hb,sb,dk,m,k,lg,st,cs,rfl,hO3,hcs,hSl3⟩;refine Kc ?_
 have hP2:Pow w1:=FD hP hx1
 have hE2:CL w1:=CL.ext hE hx1
 have hH3:=hO3.hse
 have hD3:=hO3.db
 obtain ⟨x0,hx0⟩:=Aj (xs:=cs) (k:=0) (by omega)
 have hb0:=(hO3.con.one 0 x0 hx0).2.2.1
 have hC03:=hO3.cli 0 x0 hx0
 repeat' (first|refine R1 ?_|(refine Q1 ?_;first|(refine Q15 Tryz.underlying23 (t:=23) ?_)|(refine Q4 (f:=9) (hc:=LY (by decide) (by decide) hf2) ?_;rintro _ _ ⟨rfl,rfl⟩;refine Kc ?_)|(refine Q6 (hu:=T.s40) ?_)|refine Q13 T.s40 ?_|refine Q25 T.s40 ?_|refine Q11 T.a33 ?_|refine Q14 T.a33 ?_|(refine Bn T.a33 ?_)|refine Q34 T.a33 ?_|(refine Q2 (hu:=by (first|exact T.f33_1|exact T.f39_0|exact T.f54_0|exact T.f33_0)) ?_)|(refine Q3 (hu:=by (first|exact T.p9|exact T.p37|exact T.p49|exact T.p3)) ?_)|refine Q31 ?_|refine Q44 ?_|(refine Q9 (hu:=by (first|exact T.p9|exact T.p37|exact T.p49|exact T.p3)) ?_)|(refine Q41 T.fv33_1 ?_;exact rfl))|refine R2 ?_|(apply Za;exact rfl;all_goals (intro h;try (exfalso;omega)))|(apply Zy;exact rfl;all_goals intro h)|((fail_if_success (refine Q1 ?_));apply Zb;exact rfl;exact rfl;all_goals (intro h;try (exfalso;omega)))|((fail_if_success (refine Q1 ?_));apply ZW;exact rfl;exact rfl;all_goals intro h)|refine Zf 1 [] [0,1,2,3,4,5,6,7,8] mixed (by decide +kernel) ?_|refine Zl 1 [] (.node [0,1,2,3] (.alt 4 (.node [5] (.alt 6 (.node [] (.alt 7 (.leaf [8,9]) (.alt 8 (.leaf [7,9]) .stop))) (.alt 8 (.leaf [6,7,9]) .stop))) (.alt 8 (.leaf [4,5,6,7,9]) .stop))) mixed (by decide +kernel) ?_|refine BH ?_|refine BN ?_|apply Zv|exact Zq|fail)
 all_goals try (exfalso;simp only at *;omega)
 rw [hN]
 refine Q1 ?_
 refine Q116 Ai (0:UInt8) T.s40 T.zero5 ?_
 intro p4 w4 ho4 hx4 hz4
 rw [Int.toNat_natCast] at ho4 ⊢
 rw [List.length_replicate]
 repeat' (first|refine R1 ?_|(refine Q1 ?_;first|(refine Q6 (hu:=T.s40) ?_)|refine Q13 T.s40 ?_|refine Q25 T.s40 ?_|refine Q11 T.a33 ?_|refine Q14 T.a33 ?_|(refine Bn T.a33 ?_)|refine Q34 T.a33 ?_|(refine Q2 (hu:=by (first|exact T.f33_1|exact T.f39_0|exact T.f54_0|exact T.f33_0)) ?_)|(refine Q3 (hu:=by (first|exact T.p9|exact T.p37|exact T.p49|exact T.p3)) ?_)|refine Q31 ?_|refine Q44 ?_|(refine Q9 (hu:=by (first|exact T.p9|exact T.p37|exact T.p49|exact T.p3)) ?_)|(refine Q41 T.fv33_1 ?_;exact rfl))|refine R2 ?_|(apply Za;exact rfl;all_goals (intro h;try (exfalso;omega)))|(apply Zy;exact rfl;all_goals intro h)|((fail_if_success (refine Q1 ?_));apply Zb;exact rfl;exact rfl;all_goals (intro h;try (exfalso;omega)))|((fail_if_success (refine Q1 ?_));apply ZW;exact rfl;exact rfl;all_goals intro h)|refine Zf 1 [] [0,1,2,3,4,5,6,7,8] mixed (by decide +kernel) ?_|refine Zl 1 [] (.node [0,1,2,3] (.alt 4 (.node [5] (.alt 6 (.node [] (.alt 7 (.leaf [8,9]) (.alt 8 (.leaf [7,9]) .stop))) (.alt 8 (.leaf [6,7,9]) .stop))) (.alt 8 (.leaf [4,5,6,7,9]) .stop))) mixed (by decide +kernel) ?_|refine BH ?_|refine BN ?_|apply Zv|exact Zq|fail)
 refine Zh (ι:=Nat × List UInt8) (fun y=>[(5,.pointer (some (adr (bx hb) 0))),(6,.slice p4 N N),(7,.int .i64 (y.1:Int))])
  (fun y w'=>Ext w3 w'∧y.1≤N∧y.2.length=N∧Go.V.Own w' w3.heap.size 5 Ai p4 N y.2) (fun y=>N - y.1) (0,List.replicate N 0) ⟨rfl,rfl,rfl,trivial⟩ ⟨hx4,Nat.zero_le _,by simp,ho4⟩ ?_
 rintro ⟨y,xs⟩ w5 ⟨hx5,hy,hxl,ho5⟩
 simp only at hy hxl ho5
 have hok5:Okp p4 N N:=by have:=ho5.sl.ok;rwa [hxl] at this
 by_cases hlt:y<N
 ·obtain ⟨e,he⟩:=Aj (xs:=xs) (k:=y) (by omega)
  repeat' (first|refine R1 ?_|(refine Q1 ?_;first|(refine Q10 T.s40 hok5 (q:=y) (hj:=rfl) (h1:=hlt) ?_)|(refine Q6 (hu:=T.s40) ?_)|refine Q13 T.s40 ?_|refine Q25 T.s40 ?_|refine Q11 T.a33 ?_|refine Q14 T.a33 ?_|(refine Bn T.a33 ?_)|refine Q34 T.a33 ?_|(refine Q2 (hu:=by (first|exact T.f33_1|exact T.f39_0|exact T.f54_0|exact T.f33_0)) ?_)|(refine Q3 (hu:=by (first|exact T.p9|exact T.p37|exact T.p49|exact T.p3)) ?_)|refine Q31 ?_|refine Q44 ?_|(refine Q9 (hu:=by (first|exact T.p9|exact T.p37|exact T.p49|exact T.p3)) ?_)|(refine Q41 T.fv33_1 ?_;exact rfl))|refine R2 ?_|(apply Za;exact rfl;all_goals (intro h;try (exfalso;omega)))|(apply Zy;exact rfl;all_goals intro h)|((fail_if_success (refine Q1 ?_));apply Zb;exact rfl;exact rfl;all_goals (intro h;try (exfalso;omega)))|((fail_if_success (refine Q1 ?_));apply ZW;exact rfl;exact rfl;all_goals intro h)|refine Zf 1 [] [0,1,2,3,4,5,6,7,8] mixed (by decide +kernel) ?_|refine Zl 1 [] (.node [0,1,2,3] (.alt 4 (.node [5] (.alt 6 (.node [] (.alt 7 (.leaf [8,9]) (.alt 8 (.leaf [7,9]) .stop))) (.alt 8 (.leaf [6,7,9]) .stop))) (.alt 8 (.leaf [4,5,6,7,9]) .stop))) mixed (by decide +kernel) ?_|refine BH ?_|refine BN ?_|apply Zv|exact Zq|fail)
  all_goals try (exfalso;simp only at *;omega)
  refine Q1 ?_
  refine Q42 (120:UInt8) T.z5 ho5 he (off:=0) (q:=y) (hB:=hx5.size) ?_
  intro w6 ha6 hz6
  repeat' (first|refine R1 ?_|(refine Q1 ?_;first|(refine Q10 T.s40 hok5 (q:=y) (hj:=rfl) (h1:=hlt) ?_)|(refine Q6 (hu:=T.s40) ?_)|refine Q13 T.s40 ?_|refine Q25 T.s40 ?_|refine Q11 T.a33 ?_|refine Q14 T.a33 ?_|(refine Bn T.a33 ?_)|refine Q34 T.a33 ?_|(refine Q2 (hu:=by (first|exact T.f33_1|exact T.f39_0|exact T.f54_0|exact T.f33_0)) ?_)|(refine Q3 (hu:=by (first|exact T.p9|exact T.p37|exact T.p49|exact T.p3)) ?_)|refine Q31 ?_|refine Q44 ?_|(refine Q9 (hu:=by (first|exact T.p9|exact T.p37|exact T.p49|exact T.p3)) ?_)|(refine Q41 T.fv33_1 ?_;exact rfl))|refine R2 ?_|(apply Za;exact rfl;all_goals (intro h;try (exfalso;omega)))|(apply Zy;exact rfl;all_goals intro h)|((fail_if_success (refine Q1 ?_));apply Zb;exact rfl;exact rfl;all_goals (intro h;try (exfalso;omega)))|((fail_if_success (refine Q1 ?_));apply ZW;exact rfl;exact rfl;all_goals intro h)|refine Zf 1 [] [0,1,2,3,4,5,6,7,8] mixed (by decide +kernel) ?_|refine Zl 1 [] (.node [0,1,2,3] (.alt 4 (.node [5] (.alt 6 (.node [] (.alt 7 (.leaf [8,9]) (.alt 8 (.leaf [7,9]) .stop))) (.alt 8 (.leaf [6,7,9]) .stop))) (.alt 8 (.leaf [4,5,6,7,9]) .stop))) mixed (by decide +kernel) ?_|refine BH ?_|refine BN ?_|apply Zv|exact Zq|fail)
  exact Zc (y+1,xs.set y 120) ⟨rfl,rfl,rfl,trivial⟩ ⟨hx5.app ha6 (fun k hk=>(ho5.ge k hk).1),by omega,by rw [List.length_set];exact hxl,ha6.own⟩ (by simp only;omega)
 ·repeat' (first|refine R1 ?_|(refine Q1 ?_;first|(refine Q6 (hu:=T.s40) ?_)|refine Q13 T.s40 ?_|refine Q25 T.s40 ?_|refine Q11 T.a33 ?_|refine Q14 T.a33 ?_|(refine Bn T.a33 ?_)|refine Q34 T.a33 ?_|(refine Q2 (hu:=by (first|exact T.f33_1|exact T.f39_0|exact T.f54_0|exact T.f33_0)) ?_)|(refine Q3 (hu:=by (first|exact T.p9|exact T.p37|exact T.p49|exact T.p3)) ?_)|refine Q31 ?_|refine Q44 ?_|(refine Q9 (hu:=by (first|exact T.p9|exact T.p37|exact T.p49|exact T.p3)) ?_)|(refine Q41 T.fv33_1 ?_;exact rfl))|refine R2 ?_|(apply Za;exact rfl;all_goals (intro h;try (exfalso;omega)))|(apply Zy;exact rfl;all_goals intro h)|((fail_if_success (refine Q1 ?_));apply Zb;exact rfl;exact rfl;all_goals (intro h;try (exfalso;omega)))|((fail_if_success (refine Q1 ?_));apply ZW;exact rfl;exact rfl;all_goals intro h)|refine Zf 1 [] [0,1,2,3,4,5,6,7,8] mixed (by decide +kernel) ?_|refine Zl 1 [] (.node [0,1,2,3] (.alt 4 (.node [5] (.alt 6 (.node [] (.alt 7 (.leaf [8,9]) (.alt 8 (.leaf [7,9]) .stop))) (.alt 8 (.leaf [6,7,9]) .stop))) (.alt 8 (.leaf [4,5,6,7,9]) .stop))) mixed (by decide +kernel) ?_|refine BH ?_|refine BN ?_|apply Zv|exact Zq|fail)
  all_goals try (exfalso;simp only at *;omega)
  have hB5:SlT (rt g3 w3 0) w5 0 Ai p4 N xs:=⟨ho5.sl,fun a ha=>by
   have hbl:blk p4=some a.block:=by rw [ha];rfl
   obtain ⟨q1,q2⟩:=ho5.ge _ hbl
   exact ⟨q2,by rw [CU q1],(Own.noB ho5 (by unfold ixT;decide) hbl).not⟩⟩
  obtain ⟨so,ds,hK3,hso3⟩:=hSl3
  have hDG:DbG g3 w3 ix st k m lg dk sKf [] 0 0 0 [] nn 0 80 (.pointer (some (adr (bx so) 0))):=⟨hD3.mgr,hD3.sto,ds,hK3⟩
  have hDG5:=hDG.stp (T:=[]) (Stq.of_ext hx5 0) (fun t ht=>by cases ht)
  have hms:(Af xs).size=N:=by rw [BR];exact hxl
  refine Zh (ι:=Nat × Nat × Bool) (fun y=>[(5,.pointer (some (adr (bx hb) 0))),(6,.slice p4 N N),(8,.int .i64 (y.2.1:Int)),(9,.bool y.2.2),(10,.int .i64 (y.1:Int))])
   (fun y w'=>∃g' vs used cnt,Hse w1 g' w' ix hb sb dk m k (40:Nat) nn 0 cs cnt∧cnt≤4 * y.1∧DbG g' w' ix st k m lg dk sKf vs y.2.1 0 0 [] nn used 80 (.pointer (some (adr (bx so) 0)))∧BV (Af xs) vs y.2.1∧2 * y.2.1≤used∧used≤nn∧Bk g' w' (x0.b+4) x0.cl 190 [.pointer (some (adr (bx m) 0)),.pointer none]∧SlT g' w' 0 Ai p4 N xs∧Bk g' w' 6 so 164 (slC dk 0)∧(y.2.2=false→y.1=y.2.1)∧(y.2.2=true→y.1=y.2.1+1))
   (fun y=>30 - y.1) (0,0,false) ⟨rfl,rfl,rfl,rfl,rfl,trivial⟩
   ⟨_,[],0,0,hH3.xt hx5 0,Nat.zero_le _,hDG5,BV.nil,Nat.zero_le _,Nat.zero_le _,hC03.ext hx5 0,hB5,hso3.ext hx5 0,fun _=>rfl,fun h=>by cases h⟩ ?_
  rintro ⟨i,n,full⟩ w6 ⟨g6,vs,used,cnt,hH6,hcnt,hD6,hT,hu2,hun,hC6,hB6,hso6,hfF,hfT⟩
  simp only at hcnt hD6 hT hu2 hfF hfT
  dsimp only
  have hlen:=hT.len
  cases full with
  | false =>
   obtain rfl:=hfF rfl
   have hi30:i<30:=by omega
   have hfi:AC (i:Int):=by unfold AC;omega
   have hsz:=Ex hfi
   have hs4:(Af xs++CK (i:Int)).size≤4096:=by rw [ByteArray.size_append,hms];omega
   have hsec:2≤DX (22+sKf.size+(Af xs++CK (i:Int)).size):=by unfold DX;omega
   have hF:Ful w1 ix hb sb dk m k cs x0 so nn N p4 xs cnt (fun g w=>DbG g w ix st k m lg dk sKf vs i 0 0 [] nn used 80 (.pointer (some (adr (bx so) 0)))) none w6 :=
    ⟨g6,⟨hH6,hD6,hC6,hB6,hso6,by omega,fun _ _ _ _ s h=>h.stp s (fun t ht=>by simp at ht;omega)⟩,fun a ha=>by cases ha⟩
   repeat' (first|(refine Zbp (id:=16) (ι:=Nat × Bg) (fun y=>[(5,.pointer (some (adr (bx hb) 0))),(6,.slice p4 N N),(8,.int .i64 (i:Int)),(9,.bool false),(10,.int .i64 (i:Int)),(11,.pointer (some (adr (bx y.1) 0)))]) (fun y w'=>∃g,OU w1 ix hb sb dk m k cs x0 so nn N p4 xs (cnt+4) (fun g w=>∃R,y.2.kind=R.kind∧y.2.s=R.s∧CQ ix st m k lg dk sKf vs i 0 0 [] nn used 80 (.pointer (some (adr (bx so) 0))) (Af xs++CK (i:Int)) R g w) g w'∧Bk g w' 50 y.1 33 (Aq.enc y.2)) ?_ ?_)|refine R1 ?_|(refine Q1 ?_;first|(refine Q6 (hu:=T.s40) ?_)|refine Q13 T.s40 ?_|refine Q25 T.s40 ?_|refine Q11 T.a33 ?_|refine Q14 T.a33 ?_|(refine Bn T.a33 ?_)|refine Q34 T.a33 ?_|(refine Q2 (hu:=by (first|exact T.f33_1|exact T.f39_0|exact T.f54_0|exact T.f33_0)) ?_)|(refine Q3 (hu:=by (first|exact T.p9|exact T.p37|exact T.p49|exact T.p3)) ?_)|refine Q31 ?_|refine Q44 ?_|(refine Q9 (hu:=by (first|exact T.p9|exact T.p37|exact T.p49|exact T.p3)) ?_)|(refine Q41 T.fv33_1 ?_;exact rfl))|refine R2 ?_|(apply Za;exact rfl;all_goals (intro h;try (exfalso;omega)))|(apply Zy;exact rfl;all_goals intro h)|((fail_if_success (refine Q1 ?_));apply Zb;exact rfl;exact rfl;all_goals (intro h;try (exfalso;omega)))|((fail_if_success (refine Q1 ?_));apply ZW;exact rfl;exact rfl;all_goals intro h)|fail)
   all_goals try (exfalso;simp only at *;omega)
   ·refine Zl 2 [] (.node [0,1,3] (.alt 2 (.node [] (.alt 4 (.node [5] (.alt 6 (.node [] (.alt 7 (.leaf [8,9]) (.alt 8 (.leaf [7,9]) .stop))) (.alt 8 (.leaf [6,7,9]) .stop))) (.alt 8 (.leaf [4,5,6,7,9]) .stop))) (.alt 4 (.node [] (.alt 2 (.node [5] (.alt 6 (.node [] (.alt 7 (.leaf [8,9]) (.alt 8 (.leaf [7,9]) .stop))) (.alt 8 (.leaf [6,7,9]) .stop))) (.alt 8 (.node [] (.alt 2 (.leaf [5,6,7,9]) .stop)) .stop))) (.alt 8 (.node [] (.alt 2 (.leaf [4,5,6,7,9]) (.alt 4 (.node [] (.alt 2 (.leaf [5,6,7,9]) .stop)) .stop))) .stop)))) mixed (by decide +kernel) ?_
    replace hF:=hF.ext (Ext.drew (Ext.rfl' (w:=w6)))
    repeat' (first|refine R1 ?_|(refine Q1 ?_;first|(refine Q4 (f:=11) (hc:=Ck hfi) ?_;rintro _ wc ⟨rfl,hxc⟩;refine Kc ?_;replace hF:=hF.ext (Kx hxc))|(refine Q30 T.s40 T.i5 T.str9 (bs:=xs) (hm:=hxl.symm) (hs:=hB6.sl.ext (by exact Kz)) ?_)|((fail_if_success have h0:=hL);refine Q7 T.zero33 ?_;intro aL wL haL hAL hxL hsL;replace hAL:Blk wL.heap aL 33 (Aq.enc Rb):=hAL;replace hF:=hF.alloc hxL (by omega) hAL;(try replace hM:=hM.ext hxL);have hL:=haL)|(refine Q24 Ar [Hz,sKf,Af xs++CK (i:Int)] T.s61 (hpos:=by (simp)) (hs24:=by (simp)) ?_;intro pM wM hoM hxM hzM;replace hF:=hF.ext hxM;have hM:=hoM.sl)|(refine Q4 (f:=10) (hc:=Qc hP2 hE2 hx0 (by omega) (by omega) (by omega) (JL hT.stamp) hs4 hun hF hM) ?_;rintro _ wK ⟨rK,rfl,hF⟩;refine Kc ?_)|(refine Q6 (hu:=T.s40) ?_)|refine Q13 T.s40 ?_|refine Q25 T.s40 ?_|refine Q11 T.a33 ?_|refine Q14 T.a33 ?_|(refine Bn T.a33 ?_)|refine Q34 T.a33 ?_|(refine Q2 (hu:=by (first|exact T.f33_1|exact T.f39_0|exact T.f54_0|exact T.f33_0)) ?_)|(refine Q3 (hu:=by (first|exact T.p9|exact T.p37|exact T.p49|exact T.p3)) ?_)|refine Q31 ?_|refine Q44 ?_|(refine Q9 (hu:=by (first|exact T.p9|exact T.p37|exact T.p49|exact T.p3)) ?_)|(refine Q41 T.fv33_1 ?_;exact rfl))|(refine Zj ?_)|(refine Zp ?_)|(apply Zv)|refine R2 ?_|(exact Zq)|(apply Za;exact rfl;all_goals (intro h;try (exfalso;omega)))|(apply Zy;exact rfl;all_goals intro h)|((fail_if_success (refine Q1 ?_));apply Zb;exact rfl;exact rfl;all_goals (intro h;try (exfalso;omega)))|((fail_if_success (refine Q1 ?_));apply ZW;exact rfl;exact rfl;all_goals intro h)|fail)
    all_goals
     have hbx:=hF.box
     refine Q1 ?_;refine Q5 T.z33 hbx ?_;intro wS hAS hgS hsS
     replace hAS:Blk wS.heap aL 33 (Aq.enc rK):=hAS
     repeat' (first|refine R1 ?_|(refine Q1 ?_;first|(refine Q6 (hu:=T.s40) ?_)|refine Q13 T.s40 ?_|refine Q25 T.s40 ?_|refine Q11 T.a33 ?_|refine Q14 T.a33 ?_|(refine Bn T.a33 ?_)|refine Q34 T.a33 ?_|(refine Q2 (hu:=by (first|exact T.f33_1|exact T.f39_0|exact T.f54_0|exact T.f33_0)) ?_)|(refine Q3 (hu:=by (first|exact T.p9|exact T.p37|exact T.p49|exact T.p3)) ?_)|refine Q31 ?_|refine Q44 ?_|(refine Q9 (hu:=by (first|exact T.p9|exact T.p37|exact T.p49|exact T.p3)) ?_)|(refine Q41 T.fv33_1 ?_;exact rfl))|(refine Zj ?_)|(refine Zp ?_)|(apply Zv)|refine R2 ?_|(exact Zq)|(apply Za;exact rfl;all_goals (intro h;try (exfalso;omega)))|(apply Zy;exact rfl;all_goals intro h)|((fail_if_success (refine Q1 ?_));apply Zb;exact rfl;exact rfl;all_goals (intro h;try (exfalso;omega)))|((fail_if_success (refine Q1 ?_));apply ZW;exact rfl;exact rfl;all_goals intro h)|fail)
     exact Zbo (aL,rK) ⟨rfl,rfl,rfl,rfl,rfl,rfl,trivial⟩ (hF.put hgS hAS)
   ·rintro ⟨a,r⟩ w7 ⟨g7,hC7,hA7⟩
    dsimp only at hC7 hA7 ⊢
    obtain ⟨R,e1,e2,y,vs',l',u',q1,q2,q3,hD7,hcase⟩:=hC7.P
    have hb7:=hA7.blk
    rcases hcase with ⟨rfl,h1,rfl,rfl,rfl⟩|⟨rfl,h1,h2,h3,h4⟩
    ·repeat' (first|refine R1 ?_|(refine Q1 ?_;first|(refine Q4 (f:=13) (hc:=PP (e1:r.kind=0)) ?_;rintro _ w8 ⟨rfl,hx8⟩;refine Kc ?_;replace hb7:=hb7.ext (Kx hx8))|(refine Q132 (e2:r.s=sOK) ?_)|(refine Q6 (hu:=T.s40) ?_)|refine Q13 T.s40 ?_|refine Q25 T.s40 ?_|refine Q11 T.a33 ?_|refine Q14 T.a33 ?_|(refine Bn T.a33 ?_)|refine Q34 T.a33 ?_|(refine Q2 (hu:=by (first|exact T.f33_1|exact T.f39_0|exact T.f54_0|exact T.f33_0)) ?_)|(refine Q3 (hu:=by (first|exact T.p9|exact T.p37|exact T.p49|exact T.p3)) ?_)|refine Q31 ?_|refine Q44 ?_|(refine Q9 (hu:=by (first|exact T.p9|exact T.p37|exact T.p49|exact T.p3)) ?_)|(refine Q41 T.fv33_1 ?_;exact rfl))|refine R2 ?_|(apply Za;exact rfl;all_goals (intro h;try (exfalso;omega)))|(apply Zy;exact rfl;all_goals intro h)|((fail_if_success (refine Q1 ?_));apply Zb;exact rfl;exact rfl;all_goals (intro h;try (exfalso;omega)))|((fail_if_success (refine Q1 ?_));apply ZW;exact rfl;exact rfl;all_goals intro h)|refine Zf 1 [] [0,1,2,3,4,5,6,7,8] mixed (by decide +kernel) ?_|refine Zl 1 [] (.node [0,1,2,3] (.alt 4 (.node [5] (.alt 6 (.node [] (.alt 7 (.leaf [8,9]) (.alt 8 (.leaf [7,9]) .stop))) (.alt 8 (.leaf [6,7,9]) .stop))) (.alt 8 (.leaf [4,5,6,7,9]) .stop))) mixed (by decide +kernel) ?_|refine BH ?_|refine BN ?_|apply Zv|exact Zq|fail)
     exact Zc (i+1,i+1,false) ⟨rfl,rfl,rfl,rfl,rfl,trivial⟩ ⟨_,_,_,_,hC7.H.xt hx8 0,by simp only;omega,hD7.stp (T:=[]) (Stq.of_ext hx8 0) (fun t ht=>by cases ht),hT.snoc rfl q1 q2 q3 rfl,by simp only;omega,by omega,hC7.C.ext hx8 0,hC7.B.ext hx8 0,hC7.S.ext hx8 0,fun _=>rfl,fun h=>by cases h⟩ (by simp only;omega)
    ·replace h2:=h2.symm
     replace h3:=h3.symm
     replace h4:=h4.symm
     subst h2 h3 h4
     repeat' (first|refine R1 ?_|(refine Q1 ?_;first|(refine Q4 (f:=13) (hc:=Nn (e1:r.kind=1) (e2:r.s=Bw)) ?_;rintro _ w8 ⟨rfl,hx8⟩;refine Kc ?_;replace hb7:=hb7.ext (Kx hx8))|(refine Q6 (hu:=T.s40) ?_)|refine Q13 T.s40 ?_|refine Q25 T.s40 ?_|refine Q11 T.a33 ?_|refine Q14 T.a33 ?_|(refine Bn T.a33 ?_)|refine Q34 T.a33 ?_|(refine Q2 (hu:=by (first|exact T.f33_1|exact T.f39_0|exact T.f54_0|exact T.f33_0)) ?_)|(refine Q3 (hu:=by (first|exact T.p9|exact T.p37|exact T.p49|exact T.p3)) ?_)|refine Q31 ?_|refine Q44 ?_|(refine Q9 (hu:=by (first|exact T.p9|exact T.p37|exact T.p49|exact T.p3)) ?_)|(refine Q41 T.fv33_1 ?_;exact rfl))|refine R2 ?_|(apply Za;exact rfl;all_goals (intro h;try (exfalso;omega)))|(apply Zy;exact rfl;all_goals intro h)|((fail_if_success (refine Q1 ?_));apply Zb;exact rfl;exact rfl;all_goals (intro h;try (exfalso;omega)))|((fail_if_success (refine Q1 ?_));apply ZW;exact rfl;exact rfl;all_goals intro h)|refine Zf 1 [] [0,1,2,3,4,5,6,7,8] mixed (by decide +kernel) ?_|refine Zl 1 [] (.node [0,1,2,3] (.alt 4 (.node [5] (.alt 6 (.node [] (.alt 7 (.leaf [8,9]) (.alt 8 (.leaf [7,9]) .stop))) (.alt 8 (.leaf [6,7,9]) .stop))) (.alt 8 (.leaf [4,5,6,7,9]) .stop))) mixed (by decide +kernel) ?_|refine BH ?_|refine BN ?_|apply Zv|exact Zq|fail)
     exact Zc (i+1,i,true) ⟨rfl,rfl,rfl,rfl,rfl,trivial⟩ ⟨_,_,_,_,hC7.H.xt hx8 0,by simp only;omega,hD7.stp (T:=[]) (Stq.of_ext hx8 0) (fun t ht=>by cases ht),hT,hu2,hun,hC7.C.ext hx8 0,hC7.B.ext hx8 0,hC7.S.ext hx8 0,fun h=>(by cases h),fun _=>rfl⟩ (by simp only;omega)
  | true =>
   obtain rfl:=hfT rfl
   have hC6b:=hC6
   have hM0:=hD6.mgr
   obtain ⟨⟨pa,ca,hMb,-⟩,-⟩:=hM0
   have bM:=hMb.blk
   have hS0:=hD6.sto
   obtain ⟨⟨F,hF,-⟩,-⟩:=hS0
   have b6:=hH6.hs.blk
   repeat' (first|refine R1 ?_|(refine Q1 ?_;first|(refine Q4 (f:=14) (hc:=IC hH6.srv) ?_;rintro _ _ ⟨rfl,rfl⟩;refine Kc ?_)|(refine Q4 (f:=15) (hc:=GJ hF) ?_;rintro _ _ ⟨rfl,rfl⟩;refine Kc ?_)|(refine Q6 (hu:=T.s40) ?_)|refine Q13 T.s40 ?_|refine Q25 T.s40 ?_|refine Q11 T.a33 ?_|refine Q14 T.a33 ?_|(refine Bn T.a33 ?_)|refine Q34 T.a33 ?_|(refine Q2 (hu:=by (first|exact T.f33_1|exact T.f39_0|exact T.f54_0|exact T.f33_0)) ?_)|(refine Q3 (hu:=by (first|exact T.p9|exact T.p37|exact T.p49|exact T.p3)) ?_)|refine Q31 ?_|refine Q44 ?_|(refine Q9 (hu:=by (first|exact T.p9|exact T.p37|exact T.p49|exact T.p3)) ?_)|(refine Q41 T.fv33_1 ?_;exact rfl))|refine R2 ?_|(apply Za;exact rfl;all_goals (intro h;try (exfalso;omega)))|(apply Zy;exact rfl;all_goals intro h)|((fail_if_success (refine Q1 ?_));apply Zb;exact rfl;exact rfl;all_goals (intro h;try (exfalso;omega)))|((fail_if_success (refine Q1 ?_));apply ZW;exact rfl;exact rfl;all_goals intro h)|refine Zf 1 [] [0,1,2,3,4,5,6,7,8] mixed (by decide +kernel) ?_|refine Zl 1 [] (.node [0,1,2,3] (.alt 4 (.node [5] (.alt 6 (.node [] (.alt 7 (.leaf [8,9]) (.alt 8 (.leaf [7,9]) .stop))) (.alt 8 (.leaf [6,7,9]) .stop))) (.alt 8 (.leaf [4,5,6,7,9]) .stop))) mixed (by decide +kernel) ?_|refine BH ?_|refine BN ?_|apply Zv|exact Zq|fail)
   all_goals try (exfalso;simp only at *;omega)
   refine Q1 ?_
   refine Q24 Ar [EW,sKf] T.s61 ?_
   intro p7 w7 ho7 hx7 hz7
   refine Q1 ?_;refine Q4 (hc:=Qp (hH6.xt hx7 0) hP2 hE2 hx0 (by omega) (hD6.db.stp (T:=[]) (Stq.of_ext hx7 0) (fun t ht=>by cases ht)) (hC6.ext hx7 0) ho7.sl (by simp) (by decide) (by decide) (by decide) (hT.small (by omega) (by omega))) ?_;rintro _ w8 ⟨R8,r8,g8,rfl,e81,e82,e83,hS8,hH8,hW8⟩;refine Kc ?_
   obtain ⟨⟨rr,ok,rfl,hSn⟩,hD8⟩:=hW8
   have hC8:=(hC6.ext hx7 0).stp hS8 (by simp;omega)
   have hB8:=(hB6.ext hx7 0).stp hS8 (by simp;omega)
   have hso8:=(hso6.ext hx7 0).stp hS8 (by simp;omega)
   obtain ⟨ds6,hK6⟩:=hD6.kep
   have hK8:=(hK6.ext hx7 0).stp hS8 (by simp;omega) (by simp;omega) (by simp;omega)
   repeat' (first|refine R1 ?_|(refine Q1 ?_;first|(refine Q6 (hu:=T.s40) ?_)|refine Q13 T.s40 ?_|refine Q25 T.s40 ?_|refine Q11 T.a33 ?_|refine Q14 T.a33 ?_|(refine Bn T.a33 ?_)|refine Q34 T.a33 ?_|(refine Q2 (hu:=by (first|exact T.f33_1|exact T.f39_0|exact T.f54_0|exact T.f33_0)) ?_)|(refine Q3 (hu:=by (first|exact T.p9|exact T.p37|exact T.p49|exact T.p3)) ?_)|refine Q31 ?_|refine Q44 ?_|(refine Q9 (hu:=by (first|exact T.p9|exact T.p37|exact T.p49|exact T.p3)) ?_)|(refine Q41 T.fv33_1 ?_;exact rfl))|refine R2 ?_|(apply Za;exact rfl;all_goals (intro h;try (exfalso;omega)))|(apply Zy;exact rfl;all_goals intro h)|((fail_if_success (refine Q1 ?_));apply Zb;exact rfl;exact rfl;all_goals (intro h;try (exfalso;omega)))|((fail_if_success (refine Q1 ?_));apply ZW;exact rfl;exact rfl;all_goals intro h)|refine Zf 1 [] [0,1,2,3,4,5,6,7,8] mixed (by decide +kernel) ?_|refine Zl 1 [] (.node [0,1,2,3] (.alt 4 (.node [5] (.alt 6 (.node [] (.alt 7 (.leaf [8,9]) (.alt 8 (.leaf [7,9]) .stop))) (.alt 8 (.leaf [6,7,9]) .stop))) (.alt 8 (.leaf [4,5,6,7,9]) .stop))) mixed (by decide +kernel) ?_|refine BH ?_|refine BN ?_|apply Zv|exact Zq|fail)
   refine Q1 ?_;refine Q7 T.zero33 ?_;intro a9 w9 ha9 hA9 hx9 hs9
   repeat' (first|refine R1 ?_|(refine Q1 ?_;first|(refine Q6 (hu:=T.s40) ?_)|refine Q13 T.s40 ?_|refine Q25 T.s40 ?_|refine Q11 T.a33 ?_|refine Q14 T.a33 ?_|(refine Bn T.a33 ?_)|refine Q34 T.a33 ?_|(refine Q2 (hu:=by (first|exact T.f33_1|exact T.f39_0|exact T.f54_0|exact T.f33_0)) ?_)|(refine Q3 (hu:=by (first|exact T.p9|exact T.p37|exact T.p49|exact T.p3)) ?_)|refine Q31 ?_|refine Q44 ?_|(refine Q9 (hu:=by (first|exact T.p9|exact T.p37|exact T.p49|exact T.p3)) ?_)|(refine Q41 T.fv33_1 ?_;exact rfl))|refine R2 ?_|(apply Za;exact rfl;all_goals (intro h;try (exfalso;omega)))|(apply Zy;exact rfl;all_goals intro h)|((fail_if_success (refine Q1 ?_));apply Zb;exact rfl;exact rfl;all_goals (intro h;try (exfalso;omega)))|((fail_if_success (refine Q1 ?_));apply ZW;exact rfl;exact rfl;all_goals intro h)|refine Zf 1 [] [0,1,2,3,4,5,6,7,8] mixed (by decide +kernel) ?_|refine Zl 1 [] (.node [0,1,2,3] (.alt 4 (.node [5] (.alt 6 (.node [] (.alt 7 (.leaf [8,9]) (.alt 8 (.leaf [7,9]) .stop))) (.alt 8 (.leaf [6,7,9]) .stop))) (.alt 8 (.leaf [4,5,6,7,9]) .stop))) mixed (by decide +kernel) ?_|refine BH ?_|refine BN ?_|apply Zv|exact Zq|fail)
   refine Q1 ?_;refine Q5 T.z33 hA9 ?_;intro w10 hA10 hg10 hs10
   replace hA10:Blk w10.heap a9 33 (Aq.enc r8):=hA10
   have hx810:Ext w8 w10:=hx9.own hg10 (fun k hk=>by injection hk;omega)
   by_cases hn0:n=0
   ·subst hn0
    have k8:r8.kind=4:=by
     obtain rfl:=List.length_eq_zero_iff.1 hlen
     cases ok with
     | true=>obtain ⟨v,hv,_⟩:=hSn.2 rfl;exact absurd (HV hv) (by simp)
     | false=>rw [e81,(hSn.1 rfl).1];rfl
    repeat' (first|refine R1 ?_|(refine Q1 ?_;first|(refine Q6 (hu:=T.s40) ?_)|refine Q13 T.s40 ?_|refine Q25 T.s40 ?_|refine Q11 T.a33 ?_|refine Q14 T.a33 ?_|(refine Bn T.a33 ?_)|refine Q34 T.a33 ?_|(refine Q2 (hu:=by (first|exact T.f33_1|exact T.f39_0|exact T.f54_0|exact T.f33_0)) ?_)|(refine Q3 (hu:=by (first|exact T.p9|exact T.p37|exact T.p49|exact T.p3)) ?_)|refine Q31 ?_|refine Q44 ?_|(refine Q9 (hu:=by (first|exact T.p9|exact T.p37|exact T.p49|exact T.p3)) ?_)|(refine Q41 T.fv33_1 ?_;exact rfl))|refine R2 ?_|(apply Za;exact rfl;all_goals (intro h;try (exfalso;omega)))|(apply Zy;exact rfl;all_goals intro h)|((fail_if_success (refine Q1 ?_));apply Zb;exact rfl;exact rfl;all_goals (intro h;try (exfalso;omega)))|((fail_if_success (refine Q1 ?_));apply ZW;exact rfl;exact rfl;all_goals intro h)|refine Zf 1 [] [0,1,2,3,4,5,6,7,8] mixed (by decide +kernel) ?_|refine Zl 1 [] (.node [0,1,2,3] (.alt 4 (.node [5] (.alt 6 (.node [] (.alt 7 (.leaf [8,9]) (.alt 8 (.leaf [7,9]) .stop))) (.alt 8 (.leaf [6,7,9]) .stop))) (.alt 8 (.leaf [4,5,6,7,9]) .stop))) mixed (by decide +kernel) ?_|refine BH ?_|refine BN ?_|apply Zv|exact Zq|fail)
    refine Kr Tryz.results4 ?_
    exact ⟨congrArg Value.bool (decide_eq_true k8),hx1.trans (hH8.bs.ext.trans hx810)⟩
   ·obtain ⟨n,rfl⟩:∃n':Nat,n=n'+1:=⟨n - 1,by omega⟩
    have hfn:AC (n:Int):=by unfold AC;omega
    have hszn:=Ex hfn
    have hn1':((n+1:Nat):Int) - 1=(n:Int):=by omega
    obtain ⟨us,v,rfl⟩:∃us v,vs=us++[v]:=⟨vs.dropLast,vs.getLast (by intro e;subst e;simp at hlen),(List.dropLast_concat_getLast _).symm⟩
    have hul:us.length=n:=by simp at hlen;exact hlen
    have hv:=hT.ver n v (by rw [List.getElem?_append_right (by omega)];simp [hul])
    have hst:=hT.stamp
    have hvs:v.stamp≤((n+1:Nat):Int):=hst v (by simp)
    have hus:∀z∈us,z.stamp≤((n+1:Nat):Int):=fun z hz=>hst z (by simp [hz])
    have hal:Eh v 0:=⟨hv.2.1,.inl hv.2.2.1⟩
    have q8:r8.s=Af xs++CK (n:Int):=by
     obtain ⟨k1,k2⟩:=Ie hvs hus hal hSn
     rw [e82]
     unfold Gp Dp
     rw [k1,k2,hv.2.2.2.2]
     exact hv.2.2.2.1
    have hB10:=hB8.ext hx810 0
    rw [← hn1'] at q8 hszn
    have hbb:=hA10
    repeat' (first|refine R1 ?_|(refine Q1 ?_;first|(refine Q4 (f:=11) (hc:=Ck (n:=((n+1:Nat):Int) - 1) (by unfold AC;omega)) ?_;rintro _ w11 ⟨rfl,hx11⟩;refine Kc ?_;replace hbb:=hbb.ext (Kx hx11))|(refine Q30 T.s40 T.i5 T.str9 (bs:=xs) (hm:=hxl.symm) (hs:=hB10.sl.ext (by exact Kz)) ?_)|refine Q132 q8 ?_|(refine Q6 (hu:=T.s40) ?_)|refine Q13 T.s40 ?_|refine Q25 T.s40 ?_|refine Q11 T.a33 ?_|refine Q14 T.a33 ?_|(refine Bn T.a33 ?_)|refine Q34 T.a33 ?_|(refine Q2 (hu:=by (first|exact T.f33_1|exact T.f39_0|exact T.f54_0|exact T.f33_0)) ?_)|(refine Q3 (hu:=by (first|exact T.p9|exact T.p37|exact T.p49|exact T.p3)) ?_)|refine Q31 ?_|refine Q44 ?_|(refine Q9 (hu:=by (first|exact T.p9|exact T.p37|exact T.p49|exact T.p3)) ?_)|(refine Q41 T.fv33_1 ?_;exact rfl))|refine R2 ?_|(apply Za;exact rfl;all_goals (intro h;try (exfalso;omega)))|(apply Zy;exact rfl;all_goals intro h)|((fail_if_success (refine Q1 ?_));apply Zb;exact rfl;exact rfl;all_goals (intro h;try (exfalso;omega)))|((fail_if_success (refine Q1 ?_));apply ZW;exact rfl;exact rfl;all_goals intro h)|refine Zf 1 [] [0,1,2,3,4,5,6,7,8] mixed (by decide +kernel) ?_|refine Zl 1 [] (.node [0,1,2,3] (.alt 4 (.node [5] (.alt 6 (.node [] (.alt 7 (.leaf [8,9]) (.alt 8 (.leaf [7,9]) .stop))) (.alt 8 (.leaf [6,7,9]) .stop))) (.alt 8 (.leaf [4,5,6,7,9]) .stop))) mixed (by decide +kernel) ?_|refine BH ?_|refine BN ?_|apply Zv|exact Zq|fail)
    have hx811:Ext w8 w11:=hx810.trans ((Ext.drew Ext.rfl').trans hx11)
    have hH11:=hH8.xt hx811 0
    have b11:=hH11.hs.blk
    have hD11:=hD8.stp (T:=[]) (Stq.of_ext hx811 0) (fun t ht=>by cases ht)
    have hC11:=hC8.ext hx811 0
    have hK11:=hK8.ext hx811 0
    have hso11:=hso8.ext hx811 0
    have hbig:=hK11.fit
    repeat' (first|refine R1 ?_|(refine Q1 ?_;first|(apply Zi;exact rfl;exact GX _;exact rfl)|(refine Q6 (hu:=T.s40) ?_)|refine Q13 T.s40 ?_|refine Q25 T.s40 ?_|refine Q11 T.a33 ?_|refine Q14 T.a33 ?_|(refine Bn T.a33 ?_)|refine Q34 T.a33 ?_|(refine Q2 (hu:=by (first|exact T.f33_1|exact T.f39_0|exact T.f54_0|exact T.f33_0)) ?_)|(refine Q3 (hu:=by (first|exact T.p9|exact T.p37|exact T.p49|exact T.p3)) ?_)|refine Q31 ?_|refine Q44 ?_|(refine Q9 (hu:=by (first|exact T.p9|exact T.p37|exact T.p49|exact T.p3)) ?_)|(refine Q41 T.fv33_1 ?_;exact rfl))|refine R2 ?_|(apply Za;exact rfl;all_goals (intro h;try (exfalso;omega)))|(apply Zy;exact rfl;all_goals intro h)|((fail_if_success (refine Q1 ?_));apply Zb;exact rfl;exact rfl;all_goals (intro h;try (exfalso;omega)))|((fail_if_success (refine Q1 ?_));apply ZW;exact rfl;exact rfl;all_goals intro h)|refine Zf 1 [] [0,1,2,3,4,5,6,7,8] mixed (by decide +kernel) ?_|refine Zl 1 [] (.node [0,1,2,3] (.alt 4 (.node [5] (.alt 6 (.node [] (.alt 7 (.leaf [8,9]) (.alt 8 (.leaf [7,9]) .stop))) (.alt 8 (.leaf [6,7,9]) .stop))) (.alt 8 (.leaf [4,5,6,7,9]) .stop))) mixed (by decide +kernel) ?_|refine BH ?_|refine BN ?_|apply Zv|exact Zq|fail)
    refine Q1 ?_
    refine Q12 Cr ⟨7,0,0,none,0,0⟩ T.s67 ?_
    intro p13 w13 hp13 hs13 hb13 hx13 hz13
    have hH13:=hH11.xt hx13 0
    have hD13:=hD11.stp (T:=[]) (Stq.of_ext hx13 0) (fun t ht=>by cases ht)
    refine Q1 ?_;refine Q4 (hc:=PO (ix:=ix) hH13.srv hD13.mgr hD13.sto (hK11.ext hx13 0) (hso11.ext hx13 0) ⟨v,Ig hvs hus hal⟩ (by decide) (hT.small (by omega) (by omega)) (by omega) hs13) ?_;rintro _ w14 ⟨g14,ds14,hS14,hK14,hl14⟩;refine Kc ?_
    have hH14:=hH13.stp hS14 (fun t ht=>by simp at ht;omega)
    have hD14:Db g14 w14 ix st k m lg dk sKf (us++[v]) (n+1) 0 0 [] nn 0:=⟨hD13.mgr.stp hS14 (by decide) (by decide),hD13.sto.stp hS14 (by decide),80,_,ds14,hK14⟩
    have hC14:=(hC11.ext hx13 0).stp hS14 (by simp;omega)
    repeat' (first|refine R1 ?_|(refine Q1 ?_;first|(refine Q6 (hu:=T.s40) ?_)|refine Q13 T.s40 ?_|refine Q25 T.s40 ?_|refine Q11 T.a33 ?_|refine Q14 T.a33 ?_|(refine Bn T.a33 ?_)|refine Q34 T.a33 ?_|(refine Q2 (hu:=by (first|exact T.f33_1|exact T.f39_0|exact T.f54_0|exact T.f33_0)) ?_)|(refine Q3 (hu:=by (first|exact T.p9|exact T.p37|exact T.p49|exact T.p3)) ?_)|refine Q31 ?_|refine Q44 ?_|(refine Q9 (hu:=by (first|exact T.p9|exact T.p37|exact T.p49|exact T.p3)) ?_)|(refine Q41 T.fv33_1 ?_;exact rfl))|refine R2 ?_|(apply Za;exact rfl;all_goals (intro h;try (exfalso;omega)))|(apply Zy;exact rfl;all_goals intro h)|((fail_if_success (refine Q1 ?_));apply Zb;exact rfl;exact rfl;all_goals (intro h;try (exfalso;omega)))|((fail_if_success (refine Q1 ?_));apply ZW;exact rfl;exact rfl;all_goals intro h)|refine Zf 1 [] [0,1,2,3,4,5,6,7,8] mixed (by decide +kernel) ?_|refine Zl 1 [] (.node [0,1,2,3] (.alt 4 (.node [5] (.alt 6 (.node [] (.alt 7 (.leaf [8,9]) (.alt 8 (.leaf [7,9]) .stop))) (.alt 8 (.leaf [6,7,9]) .stop))) (.alt 8 (.leaf [4,5,6,7,9]) .stop))) mixed (by decide +kernel) ?_|refine BH ?_|refine BN ?_|apply Zv|exact Zq|fail)
    refine Q1 ?_
    refine Q24 Ar [Hz,sKf,Rc] T.s61 ?_
    intro p15 w15 ho15 hx15 hz15
    have hroom:0+DX (22+sKf.size+Rc.size)≤nn:=by
     have:DX (22+sKf.size+Rc.size)=2:=by decide
     omega
    refine Q1 ?_;refine Q4 (hc:=KN (hH14.xt hx15 0) hP2 hE2 hx0 (by omega) (hD14.stp (T:=[]) (Stq.of_ext hx15 0) (fun t ht=>by cases ht)) (hC14.ext hx15 0) ho15.sl (by simp) (by omega) (by omega) (JL hst) (by decide) (by decide) (by decide) hroom) ?_;rintro _ w16 ⟨R16,r16,g16,rfl,e161,e162,e163,hS16,hH16,hW16⟩;refine Kc ?_
    obtain ⟨rfl,y16,y1,y2,y3,hD16⟩:=hW16
    have hC16:=(hC14.ext hx15 0).stp hS16 (by simp;omega)
    have q16:r16.s=sOK:=e162
    repeat' (first|refine R1 ?_|(refine Q1 ?_;first|(refine Q41 rfl (hr:=WW _) ?_)|(refine Q35 (he:=q16) ?_)|(refine Q6 (hu:=T.s40) ?_)|refine Q13 T.s40 ?_|refine Q25 T.s40 ?_|refine Q11 T.a33 ?_|refine Q14 T.a33 ?_|(refine Bn T.a33 ?_)|refine Q34 T.a33 ?_|(refine Q2 (hu:=by (first|exact T.f33_1|exact T.f39_0|exact T.f54_0|exact T.f33_0)) ?_)|(refine Q3 (hu:=by (first|exact T.p9|exact T.p37|exact T.p49|exact T.p3)) ?_)|refine Q31 ?_|refine Q44 ?_|(refine Q9 (hu:=by (first|exact T.p9|exact T.p37|exact T.p49|exact T.p3)) ?_)|(refine Q41 T.fv33_1 ?_;exact rfl))|refine R2 ?_|(apply Za;exact rfl;all_goals (intro h;try (exfalso;omega)))|(apply Zy;exact rfl;all_goals intro h)|((fail_if_success (refine Q1 ?_));apply Zb;exact rfl;exact rfl;all_goals (intro h;try (exfalso;omega)))|((fail_if_success (refine Q1 ?_));apply ZW;exact rfl;exact rfl;all_goals intro h)|refine Zf 1 [] [0,1,2,3,4,5,6,7,8] mixed (by decide +kernel) ?_|refine Zl 1 [] (.node [0,1,2,3] (.alt 4 (.node [5] (.alt 6 (.node [] (.alt 7 (.leaf [8,9]) (.alt 8 (.leaf [7,9]) .stop))) (.alt 8 (.leaf [6,7,9]) .stop))) (.alt 8 (.leaf [4,5,6,7,9]) .stop))) mixed (by decide +kernel) ?_|refine BH ?_|refine BN ?_|apply Zv|exact Zq|fail)
    refine Q1 ?_
    refine Q24 Ar [EW,sKf] T.s61 ?_
    intro p17 w17 ho17 hx17 hz17
    have hsm:∀z∈(us++[v])++[y16.v ((n+1+1:Nat):Int)],z.val.text.size≤2000:=fun z hz=>by
     rw [List.mem_append] at hz
     rcases hz with hz|hz
     ·exact hT.small (by omega) (by omega) z hz
     ·simp only [List.mem_singleton] at hz
      subst hz
      show y16.val.text.size≤2000
      rw [y3];decide
    refine Q1 ?_;refine Q4 (hc:=Qp (hH16.xt hx17 0) hP2 hE2 hx0 (by omega) (hD16.stp (T:=[]) (Stq.of_ext hx17 0) (fun t ht=>by cases ht)) (hC16.ext hx17 0) ho17.sl (by simp) (by decide) (by decide) (by decide) hsm) ?_;rintro _ w18 ⟨R18,r18,g18,rfl,e181,e182,e183,hS18,hH18,hW18⟩;refine Kc ?_
    obtain ⟨⟨r0,ok0,rfl,hSn18⟩,-⟩:=hW18
    have q18:r18.s=Rc:=by
     obtain ⟨k1,k2⟩:=Ie (s:=((n+1+1:Nat):Int)) (v:=y16.v ((n+1+1:Nat):Int)) (Int.le_refl _) (fun z hz=>by have:=hst z hz;omega) ⟨y1,.inl y2⟩ hSn18
     rw [e182]
     unfold Gp Dp
     rw [k1,k2]
     exact y3
    repeat' (first|refine R1 ?_|(refine Q1 ?_;first|(refine Q41 rfl (hr:=WW _) ?_)|(refine Q35 (he:=q18) ?_)|(refine Q6 (hu:=T.s40) ?_)|refine Q13 T.s40 ?_|refine Q25 T.s40 ?_|refine Q11 T.a33 ?_|refine Q14 T.a33 ?_|(refine Bn T.a33 ?_)|refine Q34 T.a33 ?_|(refine Q2 (hu:=by (first|exact T.f33_1|exact T.f39_0|exact T.f54_0|exact T.f33_0)) ?_)|(refine Q3 (hu:=by (first|exact T.p9|exact T.p37|exact T.p49|exact T.p3)) ?_)|refine Q31 ?_|refine Q44 ?_|(refine Q9 (hu:=by (first|exact T.p9|exact T.p37|exact T.p49|exact T.p3)) ?_)|(refine Q41 T.fv33_1 ?_;exact rfl))|refine R2 ?_|(apply Za;exact rfl;all_goals (intro h;try (exfalso;omega)))|(apply Zy;exact rfl;all_goals intro h)|((fail_if_success (refine Q1 ?_));apply Zb;exact rfl;exact rfl;all_goals (intro h;try (exfalso;omega)))|((fail_if_success (refine Q1 ?_));apply ZW;exact rfl;exact rfl;all_goals intro h)|refine Zf 1 [] [0,1,2,3,4,5,6,7,8] mixed (by decide +kernel) ?_|refine Zl 1 [] (.node [0,1,2,3] (.alt 4 (.node [5] (.alt 6 (.node [] (.alt 7 (.leaf [8,9]) (.alt 8 (.leaf [7,9]) .stop))) (.alt 8 (.leaf [6,7,9]) .stop))) (.alt 8 (.leaf [4,5,6,7,9]) .stop))) mixed (by decide +kernel) ?_|refine BH ?_|refine BN ?_|apply Zv|exact Zq|fail)
    refine Kr Tryz.results4 ?_
    exact ⟨rfl,hx1.trans hH18.bs.ext⟩
end Go.Proofs.YtkcolpfanmdmiaaGreatDoor
