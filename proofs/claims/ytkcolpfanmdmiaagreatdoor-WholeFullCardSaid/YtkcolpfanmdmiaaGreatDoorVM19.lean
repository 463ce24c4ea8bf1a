/- Texts of this proof laid together. -/
import Derived.Test.YtkcolpfanmdmiaaGreatDoorVM18
import Derived.LaidEqlPtr
import Derived.Laws.IdiomStrings
set_option maxHeartbeats 8000000
open Go Go.V
variable {a : Addr} {af : Array Edge} {ops : Array Oper} {Φ : Bg → Prop} {ro : Bool} {key name s s' : ByteArray} {E : Env} {K : Env → World → Prop} {Q : Exit → Act → World → Prop} {c0 clk start : Int} {xs : List ByteArray} {l : List Oper} {ds : List Sec} {out : List UInt8} {vs : List Ver} {b by_ c cl co dq f i ix j jw k last lg m mark mp n nn nq qc sg ss st t used vw : Nat} {dr : Nat × List Nat} {g : Nat → Nat} {F : Nat → Prop} {x y : Operand} {po q : Option Addr} {d : Option Nat} {o : Option Wt} {P : Program} {pos : String} {t' ty u : TypeId} {sv y1 : Value} {W0 w : World}
namespace Go.Proofs.YtkcolpfanmdmiaaGreatDoor
open Go.V
attribute [local irreducible] Blk Own hcell Ao Ab PlainT Ak Ad Ap Aa Ag EqT Au
theorem JQ {b l k:Nat} (h1:k≠b) (h2:k<l):AA [b,l] k=false:=by
 have h3:Nat.ble l k=false:=by
  cases hh:Nat.ble l k with
  | false=>rfl
  | true=>have:=Nat.le_of_ble_eq_true hh;omega
 have h4:k≠l:=by omega
 simp [AA,h1,h3,h4]
theorem RG {b l:Nat}:AA [b,l] b=true:=by simp [AA]
def ND (s:ByteArray):List UInt8:=Ff 1 0 :: (Bh s.size 2++s.data.toList)
theorem TY (s:ByteArray):(ND s).length=3+s.size:=by
 unfold ND
 rw [List.length_cons,List.length_append,Ci,Array.length_toList]
 show 2+s.size+1=_
 omega
theorem XH:IntKind.u8.wrap 1=((Ff 1 0).toNat:Int):=by decide
theorem UA {w0:World} {r:CO} {s:ByteArray} {B:Nat} {p:Option Addr} {c:Nat} {bs:List UInt8} {w:World} (hC:Rv w0.heap r ⟨1,s,[],[],[]⟩) (hx0:Ext w0 w) (hB0:w0.heap.size≤B) (hB:B≤w.heap.size) (ho:Go.V.Own w B 5 Ai p c bs) (hl:bs.length≤20000000) (hs:s.size≤4096) :
  Ctr Tryz.prog 110 [.slice p bs.length c,.agg (Dl.enc r).toArray] w (fun x w'=>∃p' c',x=.slice p' (bs++ND s).length c'∧App w w' B 5 Ai p p' c' (bs++ND s)):=by
 have henc:=hC.enc
 rw [henc]
 refine Ac Tryz.func110 Tryz.ntmps110 rfl rfl rfl ?_
 repeat' (refine R1 ?_)
 refine Q1 ?_;refine Q8 ?_;intro a1 w1 ha1 hA1 hx1 hs1
 replace hA1:Blk w1.heap a1 169 [.int .i64 1,.string s,.slice r.p1 0 r.c1,.slice r.p2 0 r.c2,.slice r.p3 0 r.c3]:=hA1
 have ha:=(App.refl ho hB).ext hx1
 replace hx0:=hx0.trans hx1
 repeat' (first|refine R1 ?_|(refine Q1 ?_;first|(refine Q26 T.i3 T.i5 (hv:=XH) ?_)|(refine Q2 (hu:=T.f169_0) ?_)|(refine Q3 (hu:=T.p3) ?_))|fail)
 refine Q1 ?_
 refine Q12 Ai (Ff 1 0) T.s40 ?_
 intro p2 w2 hp2 hs2 _ hx2 hz2
 replace ha:=ha.ext hx2
 replace hA1:=hA1.ext hx2
 replace hx0:=hx0.trans hx2
 repeat' (first|refine R1 ?_|(refine Q1 ?_;first|(refine Q16 T.s40 ha.own hs2 (hB:=ha.base) (hlen:=by (simp;omega)) (hmax:=by (simp;omega)) ?_;intro p3 c3 w3 ha3)|(refine Q2 (hu:=T.f169_0) ?_))|fail)
 replace hA1:=hA1.grown ha3.grown (ha.own.neB hA1 (by decide))
 replace hx0:=hx0.app ha3 (fun k hk=>Nat.le_trans hB0 (ha.own.ge k hk).1)
 replace ha:=ha.trans ha3
 repeat' (first|refine R1 ?_|(refine Q1 ?_;first|(refine Q2 (hu:=T.f169_1) ?_)|(refine Q3 (hu:=by (first|exact T.p3|exact T.p9)) ?_))|refine R2 ?_|fail)
 all_goals try (exfalso;omega)
 refine Q1 ?_;refine Q4 (hc:=MQ (s:=s) ha.base ha.own (by simp;omega) (by omega)) ?_;rintro _ w4 ⟨q,d,rfl,ha4⟩;refine Kc ?_
 repeat' (first|refine R1 ?_|refine R2 ?_|fail)
 refine Kr Tryz.results110 ?_
 have e1:bs++ND s=bs++[Ff 1 0]++(Bh s.size 2++s.data.toList):=by
  unfold ND;simp
 rw [e1]
 exact ⟨q,d,rfl,ha.trans ha4⟩
theorem Sn {p:Option Addr} {c:Nat} {r:CO} {s:ByteArray} {w:World} (hS:Sl w.heap Dl p c [r]) (hR:∀H,Rv H r ⟨1,s,[],[],[]⟩) (hf:Fits ⟨1,s,[],[],[]⟩) (hs:s.size≤4096) :
  Ctr Tryz.prog 71 [.slice p 1 c] w (fun x w'=>∃p' c',x=.slice p' (ND s).length c'∧Go.V.Own w' w.heap.size 5 Ai p' c' (ND s)∧Ext w w'):=by
 refine Ac Tryz.func71 Tryz.ntmps71 rfl rfl rfl ?_
 repeat' (first|refine R1 ?_|(refine Q1 ?_;(refine Q6 (hu:=T.s231) ?_))|refine R2 ?_|fail)
 refine Zm ?_
 have hr0:[r][0]?=some r:=rfl
 repeat' (first|(refine Q1 ?_;first|(refine Q14 T.a169 (q:=0) (e:=Dl) (hs:=hS) (hq:=hr0) ?_)|refine Q25 T.s231 ?_)|refine R1 ?_|refine R2 ?_|fail)
 all_goals try (exfalso;simp only at *;omega)
 refine Q1 ?_;refine Q7 T.zero169 ?_;intro a2 w2 ha2 hA2 hx2 hs2
 skip
 refine Q1 ?_;refine Q5 T.z169 hA2 ?_;intro w3 hA2 hg3 hs3
 replace hA2:Blk w3.heap a2 169 (Dl.enc r):=hA2
 have hx3:Ext w w3:=hx2.own hg3 (fun k hk=>by injection hk;omega)
 repeat' (first|(refine Q1 ?_;(refine Q11 T.a169 (hb:=hA2) ?_))|refine R1 ?_|fail)
 refine Q1 ?_;refine Q4 (hc:=EL (hR _) hf rfl ⟨by simp,by simp,by simp⟩) ?_;rintro _ w4 ⟨b,rfl,hb,hx4⟩;refine Kc ?_
 obtain rfl:b=true:=hb.2 (MX.2 ⟨hs,rfl,rfl,rfl⟩)
 have hx04:=hx3.trans hx4
 replace hA2:=hA2.ext hx4
 repeat' (first|refine R1 ?_|(refine Q1 ?_;(refine Q11 T.a169 (hb:=hA2) ?_))|refine R2 ?_|fail)
 refine Q1 ?_;refine Q4 (hc:=UA (w0:=w) (bs:=[]) (hR _) hx04 (Nat.le_refl _) hx04.size (Own.nil _ _ _ _) (by simp) hs) ?_;rintro _ w5 ⟨q5,d5,rfl,ha5⟩;refine Kc ?_
 repeat' (first|refine R1 ?_|refine R2 ?_|fail)
 refine Zg ?_
 repeat' (first|refine R1 ?_|refine R2 ?_|fail)
 all_goals try (exfalso;simp only at *;omega)
 refine Kr Tryz.results71 ?_
 exact ⟨q5,d5,rfl,ha5.own,hx04.app ha5 (fun k hk=>by cases hk)⟩
theorem VE {q p:Option Addr} {d c:Nat} {bs:List UInt8} {w:World} (hS:Sl w.heap Eu q d [(p,bs.length,c)]) (hb:Sl w.heap Ai p c bs) (hl:bs.length≤1000000000) :
  Ctr Tryz.prog 108 [.slice q 1 d] w (fun v w'=>∃z,v=.int .u32 (IntKind.u32.wrap z)∧w=w'):=by
 have hok:=hS.ok
 have hok2:=hb.ok
 have h00:([(p,bs.length,c)]:List Hdr)[Int.toNat 0]?=some (p,bs.length,c):=rfl
 refine Ac Tryz.func108 Tryz.ntmps108 rfl rfl rfl ?_
 repeat' (first|refine R1 ?_|(refine Q1 ?_;(refine Q6 (hu:=T.s145) ?_))|refine R2 ?_|fail)
 refine Zm ?_
 repeat' (first|refine R1 ?_|(refine Q1 ?_;first|(refine Q6 (hu:=T.s40) ?_)|refine Q25 T.s145 ?_|(refine Q9 (hu:=T.p40) ?_))|refine R2 ?_|fail)
 all_goals try (exfalso;omega)
 refine Zh (ι:=Nat × Int) (fun y=>[(0,.slice q 1 d),(3,.int .u32 y.2),(9,.slice q 1 d),(10,.int .i64 1),(11,.int .i64 0),(15,.slice p bs.length c),(16,.int .i64 (bs.length:Int)),(17,.int .i64 (y.1:Int))])
  (fun y w'=>w'=w∧y.1≤bs.length) (fun y=>bs.length - y.1) (0,4294967295) ⟨rfl,rfl,rfl,rfl,rfl,rfl,rfl,rfl,trivial⟩ ⟨rfl,Nat.zero_le _⟩ ?_
 rintro ⟨k,r⟩ w1 ⟨rfl,hk⟩
 simp only at hk
 by_cases hlt:k<bs.length
 ·obtain ⟨x,hx⟩:=Aj hlt
  repeat' (first|refine R1 ?_|(refine Q1 ?_;first|(refine Q68 ?_;intro r)|refine Q47 T.i5 T.i229 ?_|(refine Q9 (hu:=T.p5) ?_)|refine Q13 T.s40 ?_)|refine R2 ?_|(apply Za;exact rfl;all_goals (intro h;try (exfalso;omega)))|fail)
  all_goals try (exfalso;omega)
  refine Zh (ι:=Nat × Int) (fun y=>[(0,.slice q 1 d),(3,.int .u32 y.2),(9,.slice q 1 d),(10,.int .i64 1),(11,.int .i64 0),(15,.slice p bs.length c),(16,.int .i64 (bs.length:Int)),(17,.int .i64 (k:Int)),(25,.int .i64 (y.1:Int))])
   (fun y w'=>w'=w1∧y.1≤8) (fun y=>8 - y.1) (0,_) ⟨rfl,rfl,rfl,rfl,rfl,rfl,rfl,rfl,rfl,trivial⟩ ⟨rfl,Nat.zero_le _⟩ ?_
  rintro ⟨m,r2⟩ w2 ⟨rfl,hm⟩
  simp only at hm
  by_cases h8:m<8
  ·repeat' (first|refine R1 ?_|(refine Q1 ?_;first|(refine Q68 ?_;intro r)|refine Q56 ?_)|refine R2 ?_|(apply Za;exact rfl;all_goals (intro h;try (exfalso;omega)))|fail)
   all_goals try (exfalso;omega)
   all_goals exact Zc (m+1,_) ⟨rfl,rfl,rfl,rfl,rfl,rfl,rfl,rfl,rfl,trivial⟩ ⟨rfl,by simp only;omega⟩ (by simp only;omega)
  ·repeat' (first|refine R1 ?_|refine R2 ?_|(apply Za;exact rfl;all_goals (intro h;try (exfalso;omega)))|fail)
   all_goals try (exfalso;omega)
   exact Zc (k+1,r2) ⟨rfl,rfl,rfl,rfl,rfl,rfl,rfl,rfl,trivial⟩ ⟨rfl,by simp only;omega⟩ (by simp only;omega)
 ·repeat' (first|refine R1 ?_|refine R2 ?_|(apply Za;exact rfl;all_goals (intro h;try (exfalso;omega)))|fail)
  all_goals try (exfalso;omega)
  refine Zg ?_
  repeat' (first|refine R1 ?_|(refine Q1 ?_;(refine Q119 rfl rfl ?_;intro r))|refine R2 ?_|fail)
  all_goals try (exfalso;omega)
  refine Kr Tryz.results108 ?_
  exact ⟨_,rfl,rfl⟩
end Go.Proofs.YtkcolpfanmdmiaaGreatDoor
namespace Go.V
theorem WJ (z:Int):∃x:UInt8,IntKind.u8.wrap z=(x.toNat:Int):=by
 have h:0≤z % 256∧z % 256<256:=by omega
 refine ⟨UInt8.ofNat (z % 256).toNat,?_⟩
 have e:(UInt8.ofNat (z % 256).toNat).toNat=(z % 256).toNat:=by simp;omega
 rw [e,IntKind.wrap_u8];omega
theorem Xz {w w1 w2:World} {b:Option Nat} (h1:w.grownBy w1 b) (h2:w1.grownBy w2 b):w.grownBy w2 b :=
 ⟨h2.os.trans h1.os,h2.tape.trans h1.tape,h2.output.trans h1.output,Nat.le_trans h1.size h2.size,fun k hk hb=>(h2.block k (Nat.lt_of_lt_of_le hk h1.size) hb).trans (h1.block k hk hb)⟩
theorem QS (s:Sec) {i:Nat} (hi:i<64) (x:UInt8):∃s':Sec,(BZ.enc s).take i++[Value.int .u8 (x.toNat:Int)]++(BZ.enc s).drop (i+1)=BZ.enc s':=by
 refine ⟨⟨s.1.set i x,by simp [s.2]⟩,?_⟩
 simp only [BZ,← List.map_take,← List.map_drop]
 rw [List.set_eq_take_append_cons_drop,if_pos (by rw [s.2];exact hi)]
 simp
variable {g : Option (Nat × Bool)} {k : IntKind} {i : Int} {u sz len q : Nat}
theorem Q107 (hu:Ab P t u 1 by_) (h:G P n ops dr l (E.put d (.pointer (some (adr (bx b) (m+q))))) w K) (hx:E.look x=some (.slice (some (adr (bx b) m)) len c):=by exact rfl) (hy:E.look y=some (.int k i):=by exact rfl) (hi:i=(q:Int):=by omega) (hq:q<len:=by omega) (hd:Ah n d=true:=by exact rfl):G1 P n ops dr ⟨d,.indexAddr t x y,ty,pos,af,g⟩ l E w K :=
 Zd _ hd (fun a ha w' _=>by
  subst hi
  have h0:(0:Int)≤q∧(q:Int)<len:=by omega
  simp [execOp,Instr.indexAt,ha.eval hx,ha.eval hy,asIntOf,run_underlying (P:=P) hu.1,h0,CV hu,addr_add,adr];try (intro hh;omega)) h
end Go.V
namespace Go.Proofs.YtkcolpfanmdmiaaGreatDoor
open Go.V
attribute [local irreducible] Blk Own hcell Ao Ab PlainT Ak Ad Ap Aa Ag EqT Au
theorem ML {s:Sec} {q m k c ty:Nat} {z:Int} {w:World} (hB:Blk w.heap q ty (BZ.enc s)) (hk:m+k≤64) :
  Ctr Tryz.prog 603 [.slice (some (adr (bx q) m)) k c,.int .u64 z] w (fun _ w'=>∃s':Sec,Blk w'.heap q ty (BZ.enc s')∧w.grownBy w' (some q)∧w'.heap.size=w.heap.size):=by
 refine Ac Tryz.func603 Tryz.ntmps603 rfl rfl rfl ?_
 repeat' (first|refine R1 ?_|(refine Q1 ?_;(refine Q6 (hu:=T.s40) ?_))|refine R2 ?_|fail)
 refine Zh (ι:=Nat × Int × Sec) (fun y=>[(0,.slice (some (adr (bx q) m)) k c),(1,.int .u64 y.2.1),(4,.int .i64 ((k:Int) - 1 - (y.1:Int)))])
  (fun y w'=>y.1≤k∧Blk w'.heap q ty (BZ.enc y.2.2)∧w.grownBy w' (some q)∧w'.heap.size=w.heap.size) (fun y=>k - y.1) (0,z,s) ⟨rfl,rfl,(by show _=some (Value.int .i64 _);simp only [Int.natCast_zero,Int.sub_zero];rfl),trivial⟩ ⟨Nat.zero_le _,hB,⟨rfl,rfl,rfl,Nat.le_refl _,fun _ _ _=>rfl⟩,rfl⟩ ?_
 rintro ⟨j,z1,s1⟩ w1 ⟨hj,hB1,hg1,hz1⟩
 simp only at hj hB1
 by_cases hlt:j<k
 ·obtain ⟨x,hx⟩:=WJ z1
  obtain ⟨s2,hc2⟩:=QS s1 (i:=m+(k - 1 - j)) (by omega) x
  repeat' (first|refine R1 ?_|(refine Q1 ?_;first|(refine Q107 T.s40 (q:=k - 1 - j) ?_)|refine Q47 T.i66 T.i5 ?_)|refine R2 ?_|(apply Za;exact rfl;all_goals (intro h;try (exfalso;omega)))|fail)
  all_goals try (exfalso;simp only at h;omega)
  rw [hx]
  refine Q1 ?_
  refine Q5 T.z5 hB1 (hm:=by (rw [BZ.len];show _≤64;omega)) (h1:=by (intro v hv;simp only [Value.cells] at hv;simp at hv;subst hv;rfl)) (hw:=.inl rfl) ?_;intro w2 hB2 hg2 hs2
  replace hB2:Blk w2.heap q ty (BZ.enc s2):=by rw [← hc2];exact hB2
  repeat' (first|refine R1 ?_|(refine Q1 ?_;refine Q56 ?_)|refine R2 ?_|fail)
  exact Zc (j+1,_,s2) ⟨rfl,rfl,(by show some (Value.int .i64 _)=some (Value.int .i64 ((k:Int) - 1 - ((j+1:Nat):Int)));congr 2;omega),trivial⟩ ⟨by omega,hB2,Xz hg1 hg2,by omega⟩ (by simp only;omega)
 ·repeat' (first|refine R1 ?_|refine R2 ?_|(apply Za;exact rfl;all_goals (intro h;try (exfalso;omega)))|fail)
  all_goals try (exfalso;simp only at *;omega)
  refine Zk Tryz.results603 (vs:=[]) rfl ?_
  exact ⟨s1,hB1,hg1,hz1⟩
end Go.Proofs.YtkcolpfanmdmiaaGreatDoor
namespace Go.V
variable {ro : Option Nat}
theorem ZaZ {id:Nat} {l:List Oper} (k:Nat) (S:List Nat) (T:Tr) (hm:P.follows .mixedOrders=true)
  (hc:(l.all CS && Region.noSelect l.toArray && okT l.toArray (Am P k) (Bi P) (writes k) T l.length [] (Array.replicate l.length false) && T.seq)=true)
  (h:GT P n l.toArray (k,S) T E w.drew (Post n Q .normal)):WR P n ro (.region id l.toArray true) Q E w:=by
 intro a ha
 simp only [Bool.and_eq_true] at hc
 refine wpIn_region_any hm (Ec (S:=S) (wr:=writes k) (K:=fun a' w'=>∃E',Holds n E' a'∧Post n Q .normal E' w') (fun i o ho=>?_) (fun a _ ⟨_,hE,hp⟩=>by unfold Post at hp;exact hp a hE) _ _ _ _ ?_)
 ·exact List.all_eq_true.1 hc.1.1.1 o (List.mem_of_getElem? (i:=i) (by simpa using ho))
 ·have:=(Em (P:=P) (S:=S) hc.1.1.2 T l.length [] (Array.replicate l.length false) a { w with drawn:=w.drawn+1 } hc.1.2 (Zay T E w.drew h a ha)).1 hc.2
  simpa using this
end Go.V
namespace Go.Proofs.YtkcolpfanmdmiaaGreatDoor
open Go.V
attribute [local irreducible] Blk Own hcell Ao Ab PlainT Ak Ad Ap Aa Ag EqT Au
theorem PH {w:World} {q:Option Addr} {e:Nat} {bs:List UInt8} :
  Ctr Tryz.prog 602 [.slice q bs.length e] w (fun v w'=>∃b,v=.func (.func 604) #[] #[.pointer (some (adr (bx b) 0))]∧b=w.heap.size∧Blk w'.heap b 40 [.slice q bs.length e]∧Ext w w'∧w'.heap.size=w.heap.size+1):=by
 refine Ac Tryz.func602 Tryz.ntmps602 rfl rfl rfl ?_
 repeat' (refine R1 ?_)
 refine Q1 ?_;refine Q8 ?_;intro a1 w1 ha1 hA1 hx1 hs1
 replace hA1:Blk w1.heap a1 40 [.slice q bs.length e]:=hA1
 repeat' (first|refine R1 ?_|refine R2 ?_|fail)
 refine Kr Tryz.results602 ?_
 exact ⟨a1,rfl,ha1,hA1,hx1,hs1⟩
theorem MP {l b0 N:Nat} {q:Option Addr} {e:Nat} {bs:List UInt8} {J:Nat→Option Addr→Nat→List UInt8→World→Prop} {w:World}
  (hB:∀k q e bs w',J k q e bs w'→Blk w'.heap b0 40 [.slice q bs.length e]∧Okp q bs.length e)
  (hY:∀k q e bs w',J k q e bs w'→0<bs.length→63 * k+bs.length≤N→YieldAt Fence.wide 0 Tryz.prog l [Value.slice q (min 63 bs.length) e].toArray w' (fun e1 w4=>∃b,e1=.returned (.bool b)∧b=true∧J (k+1) q e bs w4))
  (hS:∀k q e bs w4 w5 m,J k q e bs w4→m≤bs.length→w4.grownBy w5 (some b0)→w5.heap.size=w4.heap.size→Blk w5.heap b0 40 [.slice (AP q e m 1) (bs.length - m) (e - m)]→J k (AP q e m 1) (e - m) (bs.drop m) w5)
  (hN:bs.length≤N) (h0:J 0 q e bs w) :
  Ctr Tryz.prog 604 [.func (.yield l) #[] #[],.pointer (some (adr (bx b0) 0))] w (fun _ w'=>∃k q e,J k q e [] w'∧63 * k≤N+62):=by
 refine Ac Tryz.func604 Tryz.ntmps604 rfl rfl rfl ?_
 repeat' apply ZaW
 refine Zh (ι:=Nat × Option Addr × Nat × List UInt8) (fun y=>[(0,.func (.yield l) #[] #[]),(1,.pointer (some (adr (bx b0) 0)))]) (fun y w'=>J y.1 y.2.1 y.2.2.1 y.2.2.2 w'∧(0<y.2.2.2.length→63 * y.1+y.2.2.2.length≤N)∧63 * y.1≤N+62) (fun y=>y.2.2.2.length) (0,q,e,bs) ⟨rfl,rfl,trivial⟩ ⟨h0,by simp only;omega,by simp only;omega⟩ ?_
 rintro ⟨k,q1,e1,bs1⟩ w1 ⟨hJ,hk,hk2⟩
 simp only at hJ hk hk2
 obtain ⟨hb1,hok⟩:=hB _ _ _ _ _ hJ
 by_cases hlt:0<bs1.length
 ·have hm1:min 63 bs1.length≤bs1.length:=Nat.min_le_right _ _
  have hm2:=hok.le
  repeat' (first|(refine Zam 4 rfl rfl rfl ?_)|refine R1 ?_|(refine Q1 ?_;first|(refine Q23 T.s40 (q:=min 63 bs1.length) ?_)|(refine Q3 (hu:=T.p40) ?_)|(refine Q6 (hu:=T.s40) ?_))|refine R2 ?_|(apply Za;exact rfl;all_goals (intro h;try (exfalso;omega)))|fail)
  all_goals try (exfalso;simp only at *;omega)
  refine ⟨l,[.slice q1 (min 63 bs1.length) e1],fun b w'=>b=true∧J (k+1) q1 e1 bs1 w',rfl,rfl,hY k q1 e1 bs1 _ hJ hlt (hk hlt),?_⟩
  rintro b w4 ⟨rfl,hJ4⟩
  obtain ⟨hb4,_⟩:=hB _ _ _ _ _ hJ4
  repeat' (first|refine R1 ?_|(refine Q1 ?_;first|(refine Q18 T.s40 hok (q:=min 63 bs1.length) (hj:=by omega) (hq:=hm1) ?_)|(refine Q3 (hu:=T.p40) ?_))|refine R2 ?_|fail)
  refine Q1 ?_;refine Q5 T.z40 hb4 ?_;intro w5 hb5 hg5 hs5
  have hJ5:=hS _ _ _ _ _ _ _ hJ4 hm1 hg5 hs5 hb5
  have hk3:=hk hlt
  have hdl:(bs1.drop (min 63 bs1.length)).length=bs1.length - min 63 bs1.length:=List.length_drop
  repeat' (first|refine R1 ?_|refine R2 ?_|fail)
  exact Zc (k+1,AP q1 e1 (min 63 bs1.length) 1,e1 - min 63 bs1.length,bs1.drop (min 63 bs1.length)) ⟨rfl,rfl,trivial⟩ ⟨hJ5,by simp only [hdl];omega,by simp only;omega⟩ (by simp only [hdl];omega)
 ·repeat' (first|(refine Q1 ?_;first|(refine Q3 (hu:=T.p40) ?_)|(refine Q6 (hu:=T.s40) ?_))|refine R1 ?_|refine R2 ?_|(apply Za;exact rfl;all_goals (intro h;try (exfalso;omega)))|fail)
  all_goals try (exfalso;simp only at *;omega)
  refine Zk Tryz.results604 (vs:=[]) rfl ?_
  obtain rfl:bs1=[]:=List.eq_nil_of_length_eq_zero (by omega)
  exact ⟨k,q1,e1,hJ,hk2⟩
structure PwK (w:World) (a8 b0 l D:Nat) (rec:Loop) (p:Option Addr) (c:Nat) (xs:List UInt8) (q:Option Addr) (e:Nat) (bs:List UInt8) (w':World):Prop where
 ext:Ext w w'
 h8:Blk w'.heap a8 40 [.slice p xs.length c]
 own:Go.V.Own w' w.heap.size 5 Ai p c xs
 h0:Blk w'.heap b0 40 [.slice q bs.length e]
 sl:Sl w.heap Ai q e bs
 loop:w'.heap[l]?=some (.loop rec)
 dfr:w'.heap[D]?=some (.deferred (some []))
 n8:w.heap.size≤a8
 n0:w.heap.size≤b0
 ne:a8≠b0
 nl:w.heap.size≤l
 nD:w.heap.size≤D
 lD:l≠D
theorem PwK.more {w:World} {a8 b0 l D:Nat} {rec:Loop} {p:Option Addr} {c:Nat} {xs:List UInt8} {q:Option Addr} {e:Nat} {bs:List UInt8} {w1 w2:World} (h:PwK w a8 b0 l D rec p c xs q e bs w1) (hx:Ext w1 w2):PwK w a8 b0 l D rec p c xs q e bs w2 :=
 ⟨h.ext.trans hx,h.h8.ext hx,h.own.ext hx,h.h0.ext hx,h.sl,hx.blk h.loop,hx.blk h.dfr,h.n8,h.n0,h.ne,h.nl,h.nD,h.lD⟩
theorem PwK.put {w:World} {a8 b0 l D:Nat} {rec rec':Loop} {p:Option Addr} {c:Nat} {xs:List UInt8} {q:Option Addr} {e:Nat} {bs:List UInt8} {w1:World} (h:PwK w a8 b0 l D rec p c xs q e bs w1):PwK w a8 b0 l D rec' p c xs q e bs (w1.putObj l (.loop rec')):=by
 have hg:w1.grownBy (w1.putObj l (.loop rec')) (some l):=Br l _
 have hlt:l<w1.heap.size:=(Array.getElem?_eq_some_iff.1 h.loop).1
 have nb:∀{b t cs},Blk w1.heap b t cs→some l≠some b:=fun hb e=>by injection e with e;exact BG h.loop hb rfl e
 exact ⟨h.ext.own hg (fun k hk=>by injection hk with hk;have:=h.nl;omega),h.h8.grown hg (nb h.h8),h.own.kept hg (fun a ha e=>by
   injection e with e
   obtain ⟨c1,h9⟩:=Go.V.Own.at h.own (k:=l) (by rw [ha,e];rfl)
   rw [h.loop] at h9;cases h9),h.h0.grown hg (nb h.h0),h.sl,World.putObj_heap_same hlt,(World.putObj_heap_other (fun e=>h.lD e.symm)).trans h.dfr,h.n8,h.n0,h.ne,h.nl,h.nD,h.lD⟩
theorem PwK.rest {w:World} {a8 b0 l D:Nat} {rec:Loop} {p:Option Addr} {c:Nat} {xs:List UInt8} {q:Option Addr} {e:Nat} {bs:List UInt8} {w1 w2:World} (h:PwK w a8 b0 l D rec p c xs q e bs w1) {m:Nat} (hm:m≤bs.length) (hg:w1.grownBy w2 (some b0)) (hb:Blk w2.heap b0 40 [.slice (AP q e m 1) (bs.length - m) (e - m)]):PwK w a8 b0 l D rec p c xs (AP q e m 1) (e - m) (bs.drop m) w2 :=
  ⟨h.ext.own hg (fun k hk=>by injection hk with hk;have:=h.n0;omega),h.h8.grown hg (fun e=>by injection e with e;exact h.ne e.symm),h.own.kept hg (fun a ha e=>h.own.neB h.h0 (by decide) (by rw [ha];exact e.symm)),by rw [List.length_drop];exact hb,
   h.sl.drop (Nat.le_trans hm h.sl.ok.le),(hg.block l (Array.getElem?_eq_some_iff.1 h.loop).1 (fun e=>by injection e with e;exact BG h.loop h.h0 rfl e)).trans h.loop,(hg.block D (Array.getElem?_eq_some_iff.1 h.dfr).1 (fun e=>by injection e with e;exact BG h.dfr h.h0 rfl e)).trans h.dfr,h.n8,h.n0,h.ne,h.nl,h.nD,h.lD⟩
theorem PwK.app {w:World} {a8 b0 l D:Nat} {rec:Loop} {p p':Option Addr} {c c':Nat} {xs ys:List UInt8} {q:Option Addr} {e:Nat} {bs:List UInt8} {w1 w2 w3:World} (h:PwK w a8 b0 l D rec p c xs q e bs w1) (ha:App w1 w2 w.heap.size 5 Ai p p' c' ys) (hg:w2.grownBy w3 (some a8)) (hb:Blk w3.heap a8 40 [.slice p' ys.length c']):PwK w a8 b0 l D rec p' c' ys q e bs w3:=by
 have g1:=ha.grown
 have h82:=h.h8.grown g1 (h.own.neB h.h8 (by decide))
 have h02:=h.h0.grown g1 (h.own.neB h.h0 (by decide))
 have hob:∀{k:Nat} {o:Obj},w1.heap[k]?=some o→o.isCells=false→w2.heap[k]?=some o:=fun {k o} hk ho=>(g1.block k (Array.getElem?_eq_some_iff.1 hk).1 (fun e=>by
  obtain ⟨c1,h9⟩:=Go.V.Own.at h.own e.symm
  rw [hk] at h9;injection h9 with h9;subst h9;cases ho)).trans hk
 have hl2:=hob h.loop rfl
 have hD2:=hob h.dfr rfl
 exact ⟨(h.ext.own g1 (fun k hk=>(h.own.ge k hk).1)).own hg (fun k hk=>by injection hk with hk;have:=h.n8;omega),hb,ha.own.kept hg (fun a ha2 e=>ha.own.neB h82 (by decide) (by rw [ha2];exact e.symm)),h02.grown hg (fun e=>by injection e with e;exact h.ne e),h.sl,
  (hg.block l (Array.getElem?_eq_some_iff.1 hl2).1 (fun e=>by injection e with e;exact BG hl2 h82 rfl e)).trans hl2,(hg.block D (Array.getElem?_eq_some_iff.1 hD2).1 (fun e=>by injection e with e;exact BG hD2 h82 rfl e)).trans hD2,h.n8,h.n0,h.ne,h.nl,h.nD,h.lD⟩
theorem UG {s:Sec} {vs:List Value} {bs:List UInt8} (hv:vs=bs.map (fun b=>Value.int .u8 (b.toNat:Int))) (hl:bs.length≤63):∃s':Sec,(BZ.enc s).take 1++vs++(BZ.enc s).drop (1+vs.length)=BZ.enc s':=by
 subst hv
 refine ⟨⟨s.1.take 1++bs++s.1.drop (1+bs.length),by have:=s.2;simp [this];omega⟩,?_⟩
 simp [BZ,List.map_drop,List.map_take]
theorem UH {H:Array Obj} {b t:Nat} {s:Sec} (hb:Blk H b t (BZ.enc s)):Sl H Ai (some (adr (bx b) 0)) 64 s.1:=by
 have:=Sl.win (m:=0) (bs:=s.1) hb (fun i x hi=>by rw [Nat.zero_add];simp only [BZ,List.getElem?_map,hi,Option.map_some]) (by rw [s.2];decide)
 rw [s.2] at this
 exact this
end Go.Proofs.YtkcolpfanmdmiaaGreatDoor
namespace Go.V
theorem Xl {ι:Type} {c:Operand} {r x y z:Code} (E0:ι→Env) (J:ι→World→Prop) (h1:W P n (.seq r (.cond c x y)) (fun e a w'=>e=.normal∧∃i,Holds n (E0 i) a∧J i w') E w) (h2:∀i w',J i w'→W P n z Q (E0 i) w'):W P n (.seq (.seq r (.cond c x y)) z) Q E w:=by
 unfold W at *
 exact fun a ha=>wp_seq (wp_mono (h1 a ha) (fun e a w' ⟨he,i,hh,hj⟩=>by subst he;exact h2 i w' hj a hh))
theorem ZaE {ι:Type} {E0:ι→Env} {J:ι→World→Prop} (i:ι) (hE:Env.sub (E0 i) E) (hJ:J i w) (hD:Env.dks (E0 i) E:=by exact rfl):Post n (fun e a w'=>e=.normal∧∃i,Holds n (E0 i) a∧J i w') .normal E w:=by
 unfold Post
 exact fun _ ha=>⟨rfl,i,ha.sub hE hD,hJ⟩
end Go.V
namespace Go.Proofs.YtkcolpfanmdmiaaGreatDoor
open Go.V
attribute [local irreducible] Blk Own hcell Ao Ab PlainT Ak Ad Ap Aa Ag EqT Au
theorem T.zero138:Ag Tryz.prog 138 (.agg (BZ.enc Cw).toArray):=Ag.of (by kernel_rfl)
structure Dfk (g:Nat→Nat) (w:World) (D:Nat):Prop where
 obj:w.heap[D]?=some (.deferred (some []))
 tag:g D≠1
theorem Dfk.stp {ix:Nat} {g g':Nat→Nat} {w w':World} {D:Nat} (h:Dfk g w D) (s:Stq ix [1] g g' w w'):Dfk g' w' D :=
 have hlt:D<w.heap.size:=(Array.getElem?_eq_some_iff.1 h.obj).1
 ⟨(s.block D hlt (fun e=>absurd e.2 (Gx h.obj rfl)) (fun _=>by simp;exact h.tag)).trans h.obj,by rw [s.tags D hlt];exact h.tag⟩
theorem AZ.obj {g:Nat→Nat} {w:World} {d D:Nat} {ds:List Sec} {ps:List (Int × Sec)} {o o':Obj} (h:AZ g w d ds ps) (ho:w.heap[D]?=some o) (hc:o.isCells=false):AZ g (w.putObj D o') d ds ps:=by
 obtain ⟨pd,cd,pp,cp,h1,h2,h3⟩:=h
 have hsD:∀k,k≠D→(w.putObj D o').heap[k]?=w.heap[k]?:=fun k hk=>World.putObj_heap_other hk
 have nr:∀{α:Type} {e:Enc α} {p c E} {xs:List α},Rw g w 1 E e p c xs→∀k,blk p=some k→k≠D:=fun hr k hk e=>by
  subst e
  obtain ⟨c1,h9⟩:=Go.V.Own.at hr.own hk
  rw [ho] at h9;injection h9 with h9;subst h9;cases hc
 exact ⟨pd,cd,pp,cp,⟨h1.blk.grown (Br D _) (fun e=>by injection e with e;exact BG ho h1.blk hc e),h1.tag,h1.nx⟩,h2.keep fun k hk=>⟨hsD k (nr h2 k hk),rfl⟩,h3.keep fun k hk=>⟨hsD k (nr h3 k hk),rfl⟩⟩
def lgC (d st nn used last:Nat):List Value:=[.pointer (some (adr (bx d) 0)),.int .i64 (st:Int),.int .i64 (nn:Int),.int .i64 (used:Int),.int .i64 (last:Int),.bool false]
theorem RY {ix:Nat} {g:Nat→Nat} {w:World} {d lg st nn used last c:Nat} {num:Int} {ds:List Sec} {p:Option Addr} {bs:List UInt8} (hD:AZ g w d ds []) (hL:Bk g w 2 lg 162 (lgC d st nn used last)) (hb:SlJ g w p c bs) (hlen:bs.length≤500000) (hds:ds.length≤65536)
  (hroom:st+used+1+(bs.length+62) / 63≤ds.length) :
  Ctr Tryz.prog 601 [.pointer (some (adr (bx lg) 0)),.int .i64 num,.slice p bs.length c] w (fun v w'=>v=.int .i64 0∧∃g' ds',Stq ix [1] g g' w w'∧AZ g' w' d ds' []∧ds'.length=ds.length):=by
 have hLb:=hL.blk
 refine Jq Tryz.func601 Tryz.ntmps601 rfl rfl rfl ?_
 repeat' (refine R1 ?_)
 refine Zf 1 [] [0,1,2,3,4,5,6,7,8,9] mixed (by decide +kernel) ?_
 repeat' (first|refine R1 ?_|(refine Q1 ?_;first|(refine Q2 (hu:=by (first|exact T.f162_1|exact T.f162_3)) ?_)|(refine Q3 (hu:=T.p3) ?_))|refine R2 ?_|fail)
 refine Q1 ?_;refine Q7 T.zero40 ?_;intro a8 w1 ha8 hA8 hx1 hs1
 replace hA8:Blk w1.heap a8 40 [.slice none 0 0]:=hA8
 repeat' (refine R1 ?_)
 refine Q1 ?_;refine Q4 (hc:=PH) ?_;rintro _ w2 ⟨b0,rfl,hb0,hB0,hx2,hs2⟩;refine Kc ?_
 repeat' (first|refine R1 ?_|refine R2 ?_|fail)
 have hx02:Ext w w2:=(Ext.drew (Ext.rfl' (w:=w))).trans (hx1.trans hx2)
 have hz01:w.drew.heap.size=w.heap.size:=rfl
 have hz1:=hx1.size
 have hz2:=hx2.size
 refine Zn [(0,.pointer (some (adr (bx lg) 0))),(1,.int .i64 num),(2,.slice p bs.length c),(7,.int .i64 ((st:Int)+(used:Int))),(8,.pointer (some (adr (bx a8) 0))),(25,.func (.func 604) #[] #[.pointer (some (adr (bx b0) 0))])] ⟨rfl,rfl,rfl,rfl,rfl,rfl,trivial⟩ ?_
 refine Zai (gf:=604) rfl rfl ⟨Tryz.f604,Tryz.func604,by decide,rfl⟩ ?_
 intro fn tmps rec wl hH hrec hl0 hD0 hxl hzl
 obtain ⟨l,hl⟩:∃l,w2.heap.size+1=l:=⟨_,rfl⟩
 obtain ⟨D,hDD⟩:∃D,w2.heap.size=D:=⟨_,rfl⟩
 rw [hl] at hl0 ⊢
 rw [hDD] at hD0 ⊢
 have hK0:PwK w a8 b0 l D rec none 0 [] p c bs wl:=⟨hx02.trans hxl,hA8.ext (hx2.trans hxl),Own.nil _ _ _ _,hB0.ext hxl,hb.sl,hl0,hD0,by omega,by omega,by omega,by omega,by omega,by omega⟩
 have key:=MP (N:=bs.length) (J:=fun k q e bs' w'=>∃p' c' xs,PwK w a8 b0 l D rec p' c' xs q e bs' w'∧xs.length=64 * k) (w:=wl) (l:=l) (b0:=b0) (q:=p) (e:=c) (bs:=bs)
  (fun k q e bs' w' ⟨p',c',xs,h,_⟩=>⟨h.h0,h.sl.ok⟩) ?_ (fun k q e bs' w4 w5 m ⟨p',c',xs,h,h2⟩ hm hg _ hb5=>⟨p',c',xs,h.rest hm hg hb5,h2⟩) (Nat.le_refl _) ⟨none,0,[],hK0,rfl⟩
 ·have hkc:=key.calls
  refine Calls.mono (by simpa using hkc) ?_
  rintro e w9 ⟨v,rfl,k,⟨q9,e9,p9,c9,xs,hK9,hxs⟩,hk9⟩
  refine ⟨⟨v,rfl⟩,rec,hK9.loop,by rw [hrec];simp,by rw [hrec],?_⟩
  have hKe:=hK9.put (rec':={ rec with state:=.exhausted })
  obtain ⟨we,hwe⟩:∃we,w9.putObj l (.loop { rec with state:=.exhausted })=we:=⟨_,rfl⟩
  rw [hwe] at hKe ⊢
  have h8e:=hKe.h8
  have hxl9:xs.length≤640000:=by omega
  apply ZQ
  apply Zr
  refine Xl (ι:=Unit) (fun _=>[(DK,.pointer (some { block:=D,off:=0 })),(0,.pointer (some (adr (bx lg) 0))),(1,.int .i64 num),(2,.slice p bs.length c),(7,.int .i64 ((st:Int)+(used:Int)))]) (fun _ w'=>∃g' ds',Stq ix [1] g g' w w'∧AZ g' w' d ds' []∧ds'.length=ds.length∧Dfk g' w' D) ?_ ?_
  ·repeat' (first|(refine Q1 ?_;first|(refine Q3 (hu:=T.p40) ?_)|(refine Q6 (hu:=T.s40) ?_))|refine R1 ?_|refine R2 ?_|(apply Za;exact rfl;all_goals (intro h;try (exfalso;omega)))|fail)
   ·refine Zf 2 [] [0,1,2,3,4,5,6,7,8] mixed (by decide +kernel) ?_
    have hKd:=hKe.more (Ext.drew Ext.rfl')
    obtain ⟨wd,hwd⟩:∃wd,we.drew=wd:=⟨_,rfl⟩
    rw [hwd] at hKd ⊢
    have hLd:=hL.ext hKd.ext 0
    have hLdb:=hLd.blk
    have h8d:=hKd.h8
    have hSd:SlJ (rt g w 0) wd p9 c9 xs:=⟨hKd.own.sl,fun a ha=>by
     have hbl:blk p9=some a.block:=by rw [ha];rfl
     obtain ⟨q1,q2⟩:=hKd.own.ge _ hbl
     exact ⟨q2,by rw [CU q1];decide,(Own.noB hKd.own (by unfold ixT;decide) hbl).not⟩⟩
    have hDk:Dfk (rt g w 0) wd D:=⟨hKd.dfr,by rw [CU hKd.nD];decide⟩
    have h63:(xs.length+63) / 64≤(bs.length+62) / 63:=by omega
    repeat' (refine Q1 ?_;first|refine Q19 ?_|refine Q21 ?_|(refine Q2 (hu:=T.f162_0) ?_)|(refine Q3 (hu:=by (first|exact T.p40|exact T.p68)) ?_)|refine Q52 ?_)
    refine Q1 ?_;refine Q4 (hc:=JN (ix:=ix) (at_:=st+used+1) (hD.ext hKd.ext 0) hSd (by omega) (by omega) rfl (by omega) hds (by simp) (by simp)) ?_;rintro _ w10 ⟨rfl,g10,ps10,hS10,hD10,hpl,hpx⟩;refine Kc ?_
    have hL10:=hLd.stp hS10 (by decide)
    have hL10b:=hL10.blk
    repeat' (first|refine R1 ?_|(refine Q1 ?_;first|(refine Q2 (hu:=T.f162_0) ?_)|(refine Q3 (hu:=T.p68) ?_))|refine R2 ?_|fail)
    refine Q1 ?_;refine Q4 (hc:=Lx (ix:=ix) hD10 hpx hds) ?_;rintro _ w11 ⟨rfl,g11,ds11,hS11,hD11,hl11⟩;refine Kc ?_
    have hS0:Stq ix [1] g (rt g w 0) w wd:=Stq.of_ext hKd.ext 0
    repeat' (first|refine R1 ?_|(refine ZaE () ⟨rfl,rfl,rfl,rfl,rfl,trivial⟩ ⟨g11,ds11,(hS0.trans hS10).trans hS11,hD11,hl11,(hDk.stp hS10).stp hS11⟩)|refine R2 ?_|fail)
   ·exact ZaE () ⟨rfl,rfl,rfl,rfl,rfl,trivial⟩ ⟨rt g w 0,ds,Stq.of_ext hKe.ext 0,hD.ext hKe.ext 0,rfl,⟨hKe.dfr,by rw [CU hKe.nD];decide⟩⟩
  ·rintro _ w12 ⟨g12,ds12,hS12,hD12,hl12,hO12⟩
   have hL12:=hL.stp hS12 (by decide)
   have hb12:=hb.stp hS12
   repeat' (refine R1 ?_)
   refine Q1 ?_;refine Q7 T.zero138 ?_;intro a13 w13 ha13 hA13 hx13 hs13
   replace hA13:Blk w13.heap a13 138 (BZ.enc Cw):=hA13
   repeat' (first|(refine Q1 ?_;refine Q74 T.ar138 ?_)|refine R1 ?_|fail)
   refine Q1 ?_
   refine Q5 T.z5 hA13 (hm:=by (rw [BZ.len];decide)) (h1:=by (intro v hv;simp only [Value.cells] at hv;simp at hv;subst hv;rfl)) (hw:=.inl rfl) ?_;intro w14 hA14 hg14 hs14
   obtain ⟨s14,hc14⟩:=QS Cw (i:=0) (by decide) 82
   replace hA14:Blk w14.heap a13 138 (BZ.enc s14):=by rw [← hc14];exact hA14
   have hx14:Ext w12 w14:=hx13.own hg14 (fun k hk=>by injection hk;omega)
   repeat' (first|refine R1 ?_|(refine Q1 ?_;first|(refine Q65 T.ar138 (q:=1) (r:=9) ?_)|refine Q47 T.i3 T.i66 ?_)|fail)
   refine Q1 ?_;refine Q4 (hc:=ML hA14 (by decide)) ?_;rintro _ w15 ⟨s15,hA15,hg15,hz15⟩;refine Kc ?_
   have hx15:Ext w12 w15:=hx14.own hg15 (fun k hk=>by injection hk;omega)
   repeat' (first|refine R1 ?_|(refine Q1 ?_;first|(refine Q65 T.ar138 (q:=9) (r:=13) ?_)|refine Q47 T.i3 T.i66 ?_|(refine Q6 (hu:=T.s40) ?_))|fail)
   refine Q1 ?_;refine Q4 (hc:=ML hA15 (by decide)) ?_;rintro _ w16 ⟨s16,hA16,hg16,hz16⟩;refine Kc ?_
   have hx16:Ext w12 w16:=hx15.own hg16 (fun k hk=>by injection hk;omega)
   repeat' (refine R1 ?_)
   refine Zf 2 [] [0,1,2,3,4,5] mixed (by decide +kernel) ?_
   have hx17:Ext w12 w16.drew:=Ext.drew hx16
   have hA17:Blk w16.drew.heap a13 138 (BZ.enc s16):=hA16
   repeat' (refine Q1 ?_;first|refine Q19 ?_|(refine Q65 T.ar138 (q:=13) (r:=17) ?_))
   refine Q1 ?_
   refine Q12 Eu (p,bs.length,c) T.s145 ?_
   intro p18 w18 hp18 hsl18 _ hx18 hz18
   have hx18':=hx17.trans hx18
   refine Q1 ?_;refine Q4 (hc:=VE hsl18 (hb12.sl.ext hx18') (by omega)) ?_;rintro _ w19 ⟨z19,rfl,rfl⟩;refine Kc ?_
   repeat' (refine Q1 ?_;refine Q47 T.i229 T.i66 ?_)
   refine Q1 ?_;refine Q4 (hc:=ML (hA17.ext hx18) (by decide)) ?_;rintro _ w20 ⟨s20,hA20,hg20,hz20⟩;refine Kc ?_
   have hx20:Ext w12 w20:=hx18'.own hg20 (fun k hk=>by injection hk;omega)
   repeat' (refine R1 ?_)
   refine Zf 2 [] [0,1,2,3,4,5,6,7] mixed (by decide +kernel) ?_
   have hx21:Ext w12 w20.drew:=Ext.drew hx20
   have hA21:Blk w20.drew.heap a13 138 (BZ.enc s20):=hA20
   have hL21:=hL12.ext hx21 0
   have hL21b:=hL21.blk
   have hS21:SlJ (rt g12 w12 0) w20.drew (some (adr (bx a13) 0)) 64 s20.1:=⟨UH hA21,fun a ha=>by
    injection ha with ha;subst ha
    exact ⟨hA21.lt,by rw [show (adr (bx a13) 0).block=a13 from rfl,CU (by omega)];decide,(Blk.noB hA21 (by unfold ixT;decide)).not⟩⟩
   have hwr:=JN (ix:=ix) (at_:=st+used) (n:=1) (hD12.ext hx21 0) hS21 (by rw [s20.2];decide) (by rw [s20.2];decide) (by rw [s20.2]) (by omega) (by omega) (by simp) (by simp)
   rw [s20.2] at hwr
   repeat' (refine Q1 ?_;first|refine Q19 ?_|refine Q21 ?_|refine Q50 T.ar138 ?_|(refine Q2 (hu:=T.f162_0) ?_)|(refine Q3 (hu:=T.p68) ?_))
   refine Q1 ?_;refine Q4 (hc:=hwr) ?_;rintro _ w22 ⟨rfl,g22,ps22,hS22,hD22,hpl22,hpx22⟩;refine Kc ?_
   have hL22:=hL21.stp hS22 (by decide)
   have hL22b:=hL22.blk
   repeat' (first|refine R1 ?_|(refine Q1 ?_;first|(refine Q2 (hu:=T.f162_0) ?_)|(refine Q3 (hu:=T.p68) ?_))|refine R2 ?_|fail)
   refine Q1 ?_;refine Q4 (hc:=Lx (ix:=ix) hD22 hpx22 (by omega)) ?_;rintro _ w23 ⟨rfl,g23,ds23,hS23,hD23,hl23⟩;refine Kc ?_
   repeat' (first|refine R1 ?_|refine R2 ?_|fail)
   have hO21:Dfk (rt g12 w12 0) w20.drew D:=hO12.stp (ix:=ix) (Stq.of_ext hx21 0)
   have hO23:=(hO21.stp hS22).stp hS23
   have hSS:=((hS12.trans (Stq.of_ext hx21 0)).trans hS22).trans hS23
   have hnD:=hKe.nD
   refine ZX Tryz.results601 rfl hO23.obj ⟨_,_,rfl,rfl,rfl⟩ ⟨rfl,g23,ds23,?_,hD23.obj hO23.obj rfl,by omega⟩
   exact ⟨hSS.os,hSS.tape,hSS.output,by rw [World.putObj_size];exact hSS.size,fun k hk a b=>(World.putObj_heap_other (by omega)).trans (hSS.block k hk a b),hSS.tags⟩
 ·intro k q e bs' w' hJ hlt hN
  obtain ⟨p',c',xs,hK,hxs⟩:=hJ
  refine EN (n:=86) (congrArg Loop.assign hrec) (congrArg Loop.body hrec) (E1:=Env.put [(0,.pointer (some (adr (bx lg) 0))),(1,.int .i64 num),(2,.slice p bs.length c),(7,.int .i64 ((st:Int)+(used:Int))),(8,.pointer (some (adr (bx a8) 0))),(25,.func (.func 604) #[] #[.pointer (some (adr (bx b0) 0))])] (some 26) (.slice q (min 63 bs'.length) e)) hK.loop (by rw [hrec]) (by rw [hrec]) (by rw [hrec];rfl) ?_ ?_
  ·have h9:=hH.put (some 26) (.slice q (min 63 bs'.length) e) (by rintro t ⟨⟩;decide)
   rw [hrec]
   simpa [Act.put] using h9
  refine ZM rfl ?_
  refine Q1 ?_
  refine Q39 ?_
  refine Zu ?_
  refine EY hK.loop ?_
  have hKb:=hK.put (rec':={ rec with state:=.busy })
  obtain ⟨wb,hwb⟩:∃wb,w'.putObj l (.loop { rec with state:=.busy })=wb:=⟨_,rfl⟩
  rw [hwb] at hKb ⊢
  refine ZaB ?_
  refine Zbh ?_
  refine ZM rfl ?_
  refine Q1 ?_;refine Q7 T.zero138 ?_;intro a10 w4 ha10 hA10 hx4 hs4
  replace hA10:Blk w4.heap a10 138 (BZ.enc Cw):=hA10
  have hK4:=hKb.more hx4
  refine Zu ?_
  refine JC ?_
  refine Zbh ?_
  refine ZM rfl ?_
  obtain ⟨vs,hvs⟩:∃vs,(bs'.take 63).map (fun b=>Value.int .u8 (b.toNat:Int))=vs:=⟨_,rfl⟩
  have hvl:vs.length=min 63 bs'.length:=by rw [← hvs];simp
  have hb4:Sl w4.heap Ai q e bs':=hK4.sl.ext hK4.ext
  have hsrc:∀(i:Nat) v,vs[i]?=some v→hcell w4.heap (adr q i)=some v:=fun i v hv=>by
   rw [← hvs,List.getElem?_map] at hv
   obtain ⟨x,hx,rfl⟩:=Option.map_eq_some_iff.1 hv
   rw [List.getElem?_take] at hx
   split at hx
   ·have:=hb4.cell i x hx 0 _ rfl
    simpa [Ai] using this
   ·cases hx
  obtain ⟨s',hs'⟩:=UG (s:=Cw) (bs:=bs'.take 63) hvs.symm (by simp;omega)
  repeat' (first|refine R1 ?_|(refine Q1 ?_;first|(refine Q126 T.ar138 rfl rfl rfl rfl (q:=1) (hn:=by decide) ?_)|(refine Q60 vs T.s40 hA10 hsrc (gb:=a10) (o:=1) (hq:=(fun _=>hb4.ok.at hlt)) (hfit:=by (rw [hvl];show 1+_≤64;omega)) (h1:=(by rw [← hvs];exact Er _)) ?_;intro w5 hA5 hg5 hz5))|fail)
  rw [hs'] at hA5
  have hx45:Ext wb w5:=hx4.own hg5 (fun k hk=>by injection hk;omega)
  refine JC ?_
  refine ZaZ 1 [] (.leaf [0,1,2,3]) mixed (by decide +kernel) ?_
  have hK5:=hKb.more (Ext.drew hx45)
  have h85:=hK5.h8
  have hO5:=hK5.own
  have hA5':Blk w5.drew.heap a10 138 (BZ.enc s'):=hA5
  have hS5:=UH hA5'
  have hxl5:xs.length≤64000000:=by omega
  repeat' (first|(refine Q1 ?_;first|refine Q50 T.ar138 ?_|(refine Q16 T.s40 hO5 hS5 (ys:=s'.1) (q:=some (adr (bx a10) 0)) (c2:=64) (hy:=by (rw [s'.2];exact rfl)) (hB:=hK5.ext.size) (hlen:=by (rw [s'.2];omega)) (hmax:=by (rw [s'.2];omega)) ?_;intro p7 c7 w7 ha7)|(refine Q3 (hu:=T.p40) ?_))|(refine Zj ?_))
  all_goals
   have hg7:=ha7.grown
   have h87:=h85.grown hg7 (hO5.neB h85 (by decide))
   refine Q1 ?_;refine Q5 T.z40 h87 ?_;intro w8 hb8 hg8 hs8
   replace hb8:Blk w8.heap a8 40 [.slice p7 (xs++s'.1).length c7]:=hb8
   have hK8:=hK5.app ha7 hg8 hb8
   repeat' (first|refine R1 ?_|refine R2 ?_|fail)
   unfold Post
   exact fun a _=>⟨rfl,hK8.loop,p7,c7,_,hK8.put,by rw [List.length_append,s'.2];omega⟩
def DX (n:Nat):Nat:=1+(n+62) / 63
theorem Iw {n:Nat} {w:World} (hn:n≤10000000) :
  Ctr Tryz.prog 115 [.int .i64 (n:Int)] w (fun v w'=>v=.int .i64 (DX n:Int)∧w=w'):=by
 have hq:0<n→IntKind.i64.wrap (Int.tdiv ((n:Int) - 1) 63)=((n - 1) / 63:Nat):=fun h0=>by
  rw [Int.tdiv_eq_ediv_of_nonneg (by omega)];simp only [IntKind.wrap_i64];omega
 refine Ac Tryz.func115 Tryz.ntmps115 rfl rfl rfl ?_
 repeat' (first|refine R1 ?_|(refine Q1 ?_;(refine Q55 (r:=(((n - 1) / 63:Nat):Int)) (hr:=hq (by omega)) ?_))|refine R2 ?_|(apply Za;exact rfl;all_goals (intro h;try (exfalso;omega)))|fail)
 ·refine Kr Tryz.results115 ?_
  obtain rfl:n=0:=by omega
  exact ⟨rfl,rfl⟩
 ·refine Kr Tryz.results115 ?_
  refine ⟨?_,rfl⟩
  show Value.int .i64 _=Value.int .i64 _
  congr 1
  unfold DX
  omega
theorem PV {g:Nat→Nat} {w:World} {d lg st nn used last:Nat} (hL:Bk g w 2 lg 162 (lgC d st nn used last)) :
  Ctr Tryz.prog 46 [.pointer (some (adr (bx lg) 0))] w (fun v w'=>v=.int .i64 (last:Int)∧w=w'):=by
 have hb:=hL.blk
 refine Ac Tryz.func46 Tryz.ntmps46 rfl rfl rfl ?_
 repeat' (first|refine R1 ?_|(refine Q1 ?_;first|(refine Q2 (hu:=T.f162_4) ?_)|(refine Q3 (hu:=T.p3) ?_))|refine R2 ?_|fail)
 refine Kr Tryz.results46 ?_
 exact ⟨rfl,rfl⟩
theorem PG {ix:Nat} {g:Nat→Nat} {w:World} {d lg st nn used last num c:Nat} {ds:List Sec} {p:Option Addr} {bs:List UInt8} (hD:AZ g w d ds []) (hL:Bk g w 2 lg 162 (lgC d st nn used last)) (hb:SlJ g w p c bs) (hlen:bs.length≤500000) (hds:ds.length≤65536)
  (hnum:num=last+1) (hlast:last≤1000000) (hroom:used+DX bs.length≤nn) (hnn:st+nn≤ds.length) :
  Ctr Tryz.prog 600 [.pointer (some (adr (bx lg) 0)),.int .i64 (num:Int),.slice p bs.length c] w (fun v w'=>v=.int .i64 0∧∃g' ds',Stq ix [1,2] g g' w w'∧AZ g' w' d ds' []∧ds'.length=ds.length∧Bk g' w' 2 lg 162 (lgC d st nn (used+DX bs.length) num)):=by
 have hLb:=hL.blk
 have hsN:DX bs.length≤8000:=by unfold DX;omega
 have hroom':st+used+1+(bs.length+62) / 63≤ds.length:=by unfold DX at hroom;omega
 have hr1:Ext w.drew w.drew:=Ext.rfl'
 refine Ac Tryz.func600 Tryz.ntmps600 rfl rfl rfl ?_
 repeat' (first|refine R1 ?_|(refine Q1 ?_;first|(refine Q4 (f:=115) (hc:=Iw (by omega)) ?_;rintro _ _ ⟨rfl,rfl⟩;refine Kc ?_)|(refine Q2 (hu:=by (first|exact T.f162_5|exact T.f162_4|exact T.f162_2|exact T.f162_3)) ?_)|(refine Q3 (hu:=by (first|exact T.p4|exact T.p3)) ?_)|(refine Q6 (hu:=T.s40) ?_))|refine R2 ?_|(apply Za;exact rfl;all_goals (intro h;try (exfalso;omega)))|((fail_if_success (refine Q1 ?_));apply Zb;exact rfl;exact rfl;all_goals (intro h;try (exfalso;omega)))|refine Zf 1 [] [0,1,3,4,5,6,7,8,9,10,11,2,12,13] mixed (by decide +kernel) ?_|fail)
 all_goals try (exfalso;simp only at *;omega)
 have hx1:Ext w w.drew:=Ext.drew Ext.rfl'
 have hS0:Stq ix [1] g (rt g w 0) w w.drew:=Stq.of_ext hx1 0
 refine Q1 ?_;refine Q4 (hc:=RY (ix:=ix) (hD.ext hx1 0) (hL.ext hx1 0) (hb.stp hS0) hlen hds hroom') ?_;rintro _ w1 ⟨rfl,g1,ds1,hS1,hD1,hl1⟩;refine Kc ?_
 have hL1:=(hL.ext hx1 0).stp hS1 (by decide)
 have hL1b:=hL1.blk
 repeat' (first|refine R1 ?_|(refine Q1 ?_;(refine Q2 (hu:=T.f162_4) ?_))|refine R2 ?_|fail)
 refine Q1 ?_;refine Q5 T.z3 hL1b ?_;intro w2 hA2 hg2 hs2
 replace hA2:Blk w2.heap lg 162 (lgC d st nn used num):=hA2
 have hL2:=hL1.turned (u:=0) hA2
 have hS2:=hL1.stpG (ix:=ix) (T:=[2]) hg2 0 (by decide)
 have hr2:Ext w2.drew w2.drew:=Ext.rfl'
 repeat' (first|refine R1 ?_|(refine Q1 ?_;first|(refine Q4 (f:=115) (hc:=Iw (by omega)) ?_;rintro _ _ ⟨rfl,rfl⟩;refine Kc ?_)|(refine Q2 (hu:=T.f162_3) ?_)|(refine Q3 (hu:=T.p3) ?_)|(refine Q6 (hu:=T.s40) ?_))|refine R2 ?_|refine Zf 1 [] [0,1,2,3,4,5,6,7,8,9,10] mixed (by decide +kernel) ?_|fail)
 have hx2:Ext w2 w2.drew:=Ext.drew Ext.rfl'
 have hL2d:=hL2.ext hx2 0
 have hL2b:=hL2d.blk
 refine Q1 ?_;refine Q5 T.z3 hL2b ?_;intro w3 hA3 hg3 hs3
 replace hA3:Blk w3.heap lg 162 (lgC d st nn (used+DX bs.length) num):=hA3
 repeat' (first|refine R1 ?_|refine R2 ?_|fail)
 refine Kr Tryz.results600 ?_
 have hS3:Stq ix [2] _ _ w1 w3:=(hS2.trans (Stq.of_ext hx2 0)).trans (hL2d.stpG (ix:=ix) (T:=[2]) hg3 0 (by decide))
 exact ⟨rfl,_,ds1,((hS0.trans hS1).mono (by simp)).trans (hS3.mono (by simp)),hD1.stp hS3 (by decide),hl1,hL2d.turned hA3⟩
theorem DR {n:Int} {k:Nat} {B:Nat} {p:Option Addr} {c:Nat} {bs:List UInt8} {w:World} (hk:k≤8) (hB:B≤w.heap.size) (ho:Go.V.Own w B 5 Ai p c bs) (hl:bs.length≤100000000) :
  Ctr Tryz.prog 70 [.slice p bs.length c,.int .i64 n,.int .i64 k] w (fun v w'=>∃p' c',v=.slice p' (bs++Bh n k).length c'∧App w w' B 5 Ai p p' c' (bs++Bh n k)):=by
 refine Ac Tryz.func70 Tryz.ntmps70 rfl rfl rfl ?_
 repeat' (first|refine R1 ?_|refine R2 ?_|fail)
 refine Zh (ι:=Nat × Option Addr × Nat × List UInt8) (fun x=>[(0,.slice x.2.1 x.2.2.2.length x.2.2.1),(1,.int .i64 n),(7,.int .i64 ((x.1:Int) - 1))])
  (fun x w'=>App w w' B 5 Ai p x.2.1 x.2.2.1 x.2.2.2∧x.1≤k∧x.2.2.2.length≤bs.length+(k - x.1)∧x.2.2.2++Bh n x.1=bs++Bh n k) (fun x=>x.1) (k,p,c,bs) ⟨rfl,rfl,rfl,trivial⟩ ⟨App.refl ho hB,Nat.le_refl _,Nat.le_add_right _ _,rfl⟩ ?_
 rintro ⟨j,q,d,cs⟩ w1 ⟨ha,hj,hcl,he⟩
 simp only at ha hj hcl he
 by_cases hz:j=0
 ·subst hz
  repeat' (first|refine R1 ?_|refine R2 ?_|fail)
  refine Kr Tryz.results70 ?_
  have e0:cs=bs++Bh n k:=by simpa [Bh] using he
  subst e0
  exact ⟨q,d,rfl,ha⟩
 ·obtain ⟨i,rfl⟩:∃i,j=i+1:=⟨j - 1,by omega⟩
  refine Zn [(0,.slice q cs.length d),(1,.int .i64 n),(7,.int .i64 (i:Int))] ⟨rfl,rfl,by show some _=some _;congr 2;omega,trivial⟩ ?_
  repeat' (first|refine R1 ?_|(refine Q1 ?_;first|(refine Q26 T.i3 T.i5 (hv:=LU n i (by omega)) ?_)|(refine Q56 (h0:=by omega) ?_))|refine R2 ?_|fail)
  refine Q1 ?_
  refine Q12 Ai (Ff n i) T.s40 ?_
  intro p2 w2 hp2 hs2 _ hx2 hz2
  have ha2:=ha.ext hx2
  repeat' (first|refine R1 ?_|(refine Q1 ?_;(refine Q16 T.s40 ha2.own hs2 (hB:=ha2.base) (hlen:=by (simp;omega)) (hmax:=by (simp;omega)) ?_;intro p3 c3 w3 ha3))|refine R2 ?_|fail)
  have ha4:=ha2.trans ha3
  refine Zc (i,p3,c3,cs++[Ff n i]) ⟨rfl,rfl,rfl,trivial⟩ ⟨ha4,by simp only;omega,by simp;omega,?_⟩ (by simp)
  rw [← he];simp [Bh]
def Cu (x:Wt):Nat:=19+x.key.size+(if x.gone then 0 else 3+x.val.text.size)
theorem LC {s:ByteArray} (h:s.size≤4096):Fits ⟨1,s,[],[],[]⟩:=by
 refine ⟨⟨by show (-9223372036854775808:Int)≤1;decide,by show (1:Int)≤9223372036854775807;decide⟩,?_,by simp,by simp,by simp⟩
 have:4096≤maxLen:=by decide
 simp only;omega
theorem Pv {r:CO} {p:Option Addr} {c:Nat} {w:World} (hS:Sl w.heap Dl p c [r]) (hT:Dk r) :
  Ctr Tryz.prog 71 [.slice p 1 c] w (fun x w'=>∃p' c' bs,x=.slice p' bs.length c'∧Go.V.Own w' w.heap.size 5 Ai p' c' bs∧Ext w w'∧bs.length=3+r.text.size):=by
 have h:=Sn (s:=r.text) hS (fun H=>hT.rv H) (LC hT.size) hT.size
 refine h.mono fun v w' ⟨p',c',h1,h2,h3⟩=>⟨p',c',_,h1,h2,h3,TY _⟩
theorem QW {x:Wt} (h1:x.key.size≤4096) (h2:x.gone=false→Dk x.val):Cu x≤9000:=by
 unfold Cu
 split
 ·omega
 ·rename_i hg
  have:=(h2 (by simpa using hg)).size;omega
theorem Ql {xs:List Wt} {k:Nat} {x:Wt} (h:xs[k]?=some x):((xs.take (k+1)).map Cu).sum=((xs.take k).map Cu).sum+Cu x:=by
 rw [AJ h];simp
theorem OL {xs:List Wt} (h:∀x∈xs,Cu x≤9000):(xs.map Cu).sum≤9000 * xs.length:=by
 induction xs with
 | nil=>simp
 | cons x xs ih =>
  have h1:=h x (by simp)
  have h2:=ih (fun y hy=>h y (by simp [hy]))
  simp only [List.map_cons,List.sum_cons,List.length_cons]
  omega
theorem RP {p:Option Addr} {c:Nat} {xs:List Wt} {w:World} (hS:Sl w.heap eWt p c xs) (hn:xs.length≤20) (hT:∀x∈xs,x.key.size≤4096∧(x.gone=false→Dk x.val)) :
  Ctr Tryz.prog 48 [.slice p xs.length c] w (fun v w'=>∃p' c' bs,v=.slice p' bs.length c'∧Go.V.Own w' w.heap.size 5 Ai p' c' bs∧Ext w w'∧bs.length=(xs.map Cu).sum):=by
 have hok:=hS.ok
 refine Ac Tryz.func48 Tryz.ntmps48 rfl rfl rfl ?_
 repeat' (first|refine R1 ?_|(refine Q1 ?_;(refine Q6 (hu:=T.s120) ?_))|refine R2 ?_|fail)
 refine Zh (ι:=Nat × Option Addr × Nat × List UInt8) (fun y=>[(3,.slice y.2.1 y.2.2.2.length y.2.2.1),(6,.slice p xs.length c),(7,.int .i64 (xs.length:Int)),(8,.int .i64 (y.1:Int))])
  (fun y w'=>Ext w w'∧y.1≤xs.length∧Go.V.Own w' w.heap.size 5 Ai y.2.1 y.2.2.1 y.2.2.2∧y.2.2.2.length=((xs.take y.1).map Cu).sum) (fun y=>xs.length - y.1) (0,none,0,[]) ⟨rfl,rfl,rfl,rfl,trivial⟩ ⟨Ext.rfl',Nat.zero_le _,Own.nil _ _ _ _,rfl⟩ ?_
 rintro ⟨j,q,d,bs⟩ w1 ⟨hx1,hj,ho1,hl1⟩
 simp only at hj ho1 hl1
 have hbl:((xs.take j).map Cu).sum≤180000:=by
  have:=OL (xs:=xs.take j) (fun x hx=>QW (hT x (List.mem_of_mem_take hx)).1 (hT x (List.mem_of_mem_take hx)).2)
  have h2:(xs.take j).length≤20:=by simp;omega
  omega
 by_cases hlt:j<xs.length
 ·obtain ⟨x,hx⟩:=Aj hlt
  obtain ⟨hk,hv⟩:=hT x (List.mem_of_getElem? hx)
  have hs1:=hS.ext hx1
  have hsn:=Ql hx
  have z1:=hx1.size
  repeat' (first|(refine Q1 ?_;first|(refine Q14 T.a173 (hs:=hs1) (hq:=hx) ?_)|refine Q13 T.s120 ?_)|refine R1 ?_|refine R2 ?_|(apply Za;exact rfl;all_goals (intro h;try (exfalso;omega)))|fail)
  all_goals try (exfalso;omega)
  refine Q1 ?_;refine Q7 T.zero173 ?_;intro a7 w7 ha7 hA7 hx7 hs7
  skip
  refine Q1 ?_;refine Q5 T.z173 hA7 (hl:=Enc.len eWt _) ?_;intro w8 hA8 hg8 hs8
  replace hA8:Blk w8.heap a7 173 (eWt.enc x):=Blk.all hA8 (Nat.le_refl _)
  have hx18:Ext w1 w8:=hx7.own hg8 (fun k hk=>by injection hk;omega)
  have hq6:∀k,blk q=some k→k<w1.heap.size:=fun k hk=>(ho1.ge k hk).2
  have hz8:=hx18.size
  have hEx:AA [(blk q).getD w8.heap.size,w8.heap.size] a7=false:=by
   cases hq:blk q with
   | none=>exact JQ (by simp only [Option.getD_none];omega) (by omega)
   | some k=>have:=hq6 k hq;exact JQ (by simp only [Option.getD_some];omega) (by omega)
  repeat' (refine R1 ?_)
  refine Zl 1 [(blk q).getD w8.heap.size,w8.heap.size] (.node [0,1,5,6] (.alt 2 (.node [] (.alt 3 (.leaf [4,7,8]) .stop)) .stop)) mixed (by decide +kernel) ?_
  have hx8d:Ext w8 w8.drew:=Ext.drew Ext.rfl'
  have ho8:=ho1.ext (hx18.trans hx8d)
  have hA8d:Blk w8.drew.heap a7 173 (eWt.enc x):=hA8
  have hB8:w.heap.size≤w8.drew.heap.size:=by show _≤w8.heap.size;omega
  repeat' (first|refine R1 ?_|(refine Q1 ?_;first|(refine Q2 (hu:=T.f173_0) ?_)|(refine Q31 (hu:=T.p9) ?_)|refine Q17 T.str9 ?_)|(refine Zj ?_)|(refine Zp ?_)|(apply Zv)|(exact Zq)|fail)
  refine Q1 ?_;refine Q36 (hc:=DR (bs:=bs) (n:=(x.key.size:Int)) (k:=2) (by omega) hB8 ho8 (by omega)) ?_;rintro _ w9 ⟨q9,d9,rfl,ha9⟩;refine ⟨(by first|exact .inl rfl|exact .inr (Bd.of_grown ha9.grown (fun k hk=>by rw [hk];exact RG))),?_⟩
  have hA9:=hA8d.grown ha9.grown (ho8.neB hA8d (by decide))
  repeat' (first|refine R1 ?_|(refine Q1 ?_;first|(refine Q43 T.s40 T.str9 ha9.own ha9.base (hlen:=by (simp only [List.length_append,Ci];omega)) (hmax:=by (simp only [List.length_append,Ci];omega)) ?_;intro p10 c10 w10 ha10)|(refine Q2 (hu:=by (first|exact T.f173_1|exact T.f171_0)) ?_))|fail)
  have hA10:=hA9.grown ha10.grown (ha9.own.neB hA9 (by decide))
  have e10:(bs++Bh (x.key.size:Int) 2++x.key.data.toList).length=bs.length+2+x.key.size:=by simp only [List.length_append,Ci];rfl
  have hAp:=ha9.trans ha10
  have hge8:∀k,blk q=some k→w.heap.size≤k:=fun k hk=>(ho1.ge k hk).1
  obtain ⟨bs10,hbs10⟩:∃l,bs++Bh (x.key.size:Int) 2++x.key.data.toList=l:=⟨_,rfl⟩
  repeat' (refine Q1 ?_;(refine Q3 (hu:=T.p3) ?_))
  rw [hbs10] at hAp e10 ⊢
  refine Q1 ?_;refine Q4 (hc:=DR (bs:=bs10) (n:=x.stamp) (k:=8) (by omega) hAp.base hAp.own (by omega)) ?_;rintro _ w11 ⟨q11,d11,rfl,ha11⟩;refine Kc ?_
  have hA11:=hA10.grown ha11.grown (hAp.own.neB hA10 (by decide))
  replace hAp:=hAp.trans ha11
  obtain ⟨bs11,hbs11⟩:∃l,bs10++Bh x.stamp 8=l:=⟨_,rfl⟩
  have e11:bs11.length=bs10.length+8:=by rw [← hbs11,List.length_append,Ci]
  rw [hbs11] at hAp ⊢
  repeat' (first|refine R1 ?_|(refine Q1 ?_;first|(refine Q2 (hu:=by (first|exact T.f173_1|exact T.f171_2)) ?_)|(refine Q3 (hu:=T.p3) ?_))|fail)
  refine Q1 ?_;refine Q4 (hc:=DR (bs:=bs11) (n:=x.exp) (k:=8) (by omega) hAp.base hAp.own (by omega)) ?_;rintro _ w12 ⟨q12,d12,rfl,ha12⟩;refine Kc ?_
  have hA12:=hA11.grown ha12.grown (hAp.own.neB hA11 (by decide))
  replace hAp:=hAp.trans ha12
  obtain ⟨bs12,hbs12⟩:∃l,bs11++Bh x.exp 8=l:=⟨_,rfl⟩
  have e12:bs12.length=bs11.length+8:=by rw [← hbs12,List.length_append,Ci]
  rw [hbs12] at hAp ⊢
  have hwl:Cu x=19+x.key.size+(if x.gone then 0 else 3+x.val.text.size):=rfl
  have hx12:Ext w w12:=((hx1.trans hx18).trans hx8d).own hAp.grown hge8
  have hxo:Ext w w8.drew:=(hx1.trans hx18).trans hx8d
  cases hg:x.gone with
  | true =>
   have hgv:(eWt.enc x)[2]?=some (.bool true):=by rw [← hg];rfl
   rw [hg,if_pos rfl] at hwl
   repeat' (first|refine R1 ?_|(refine Q1 ?_;first|(refine Q3 (hu:=T.p4) (hb:=hA12) (hv:=hgv) ?_)|(refine Q2 (hu:=by (first|exact T.f173_1|exact T.f171_1)) ?_))|refine R2 ?_|fail)
   refine Q1 ?_;refine Q12 Ai 1 T.s40 ?_;intro p13 w13 hp13 hs13 _ hx13 hz13;replace hAp:=hAp.ext hx13
   repeat' (first|refine R1 ?_|(refine Q1 ?_;(refine Q16 T.s40 hAp.own hs13 (hB:=hAp.base) (hlen:=by (simp only [List.length_singleton];omega)) (hmax:=by (simp only [List.length_singleton];omega)) ?_;intro p14 c14 w14 ha14))|refine R2 ?_|fail)
   replace hAp:=hAp.trans ha14
   exact Zc (j+1,p14,c14,bs12++[1]) ⟨rfl,rfl,rfl,rfl,trivial⟩ ⟨hxo.own hAp.grown hge8,by simp only;omega,hAp.own,by simp only [List.length_append,List.length_singleton];omega⟩ (by simp only;omega)
  | false =>
   have hgv:(eWt.enc x)[2]?=some (.bool false):=by rw [← hg];rfl
   have hTv:=hv hg
   have hTs:=hTv.size
   rw [hg,if_neg (by decide)] at hwl
   repeat' (first|refine R1 ?_|(refine Q1 ?_;first|(refine Q3 (hu:=T.p4) (hb:=hA12) (hv:=hgv) ?_)|(refine Q2 (hu:=by (first|exact T.f173_1|exact T.f171_1)) ?_))|refine R2 ?_|fail)
   refine Q1 ?_;refine Q12 Ai 0 T.s40 ?_;intro p13 w13 hp13 hs13 _ hx13 hz13;replace hAp:=hAp.ext hx13
   have hA13:=hA12.ext hx13
   repeat' (first|refine R1 ?_|(refine Q1 ?_;first|(refine Q16 T.s40 hAp.own hs13 (hB:=hAp.base) (hlen:=by (simp only [List.length_singleton];omega)) (hmax:=by (simp only [List.length_singleton];omega)) ?_;intro p14 c14 w14 ha14)|(refine Q2 (hu:=by (first|exact T.f173_1|exact T.f171_3)) ?_))|fail)
   have hA14:=hA13.grown ha14.grown (hAp.own.neB hA13 (by decide))
   replace hAp:=hAp.trans ha14
   obtain ⟨bs14,hbs14⟩:∃l,bs12++[(0:UInt8)]=l:=⟨_,rfl⟩
   have e14:bs14.length=bs12.length+1:=by rw [← hbs14,List.length_append];rfl
   rw [hbs14] at hAp ⊢
   repeat' (refine Q1 ?_;(refine Q34 T.a169 (vs:=Dl.enc x.val) (hb:=hA14) (hl:=Dl.len _) ?_))
   refine Q1 ?_
   refine Q12 Dl x.val T.s231 ?_
   intro p15 w15 hp15 hs15 _ hx15 hz15
   replace hAp:=hAp.ext hx15
   skip
   refine Q1 ?_;refine Q4 (hc:=Pv hs15 hTv) ?_;rintro _ w16 ⟨p16,c16,bs16,rfl,ho16,hx16,hl16⟩;refine Kc ?_
   replace hAp:=hAp.ext hx16
   repeat' (first|refine R1 ?_|(refine Q1 ?_;(refine Q16 T.s40 hAp.own ho16.sl (hB:=hAp.base) (hlen:=by omega) (hmax:=by omega) ?_;intro p17 c17 w17 ha17))|refine R2 ?_|fail)
   replace hAp:=hAp.trans ha17
   exact Zc (j+1,p17,c17,bs14++bs16) ⟨rfl,rfl,rfl,rfl,trivial⟩ ⟨hxo.own hAp.grown hge8,by simp only;omega,hAp.own,by simp only [List.length_append];omega⟩ (by simp only;omega)
 ·repeat' (first|refine R1 ?_|refine R2 ?_|(apply Za;exact rfl;all_goals (intro h;try (exfalso;omega)))|fail)
  all_goals try (exfalso;omega)
  refine Kr Tryz.results48 ?_
  obtain rfl:j=xs.length:=by omega
  rw [List.take_length] at hl1
  exact ⟨q,d,bs,rfl,ho1,hx1,hl1⟩
structure BX (g:Nat→Nat) (w:World) (k lg d st nn used last:Nat) (sv:Value) (ds:List Sec):Prop where
 box:Bk g w 6 k 117 [.pointer (some (adr (bx lg) 0)),sv]
 log:Bk g w 2 lg 162 (lgC d st nn used last)
 disk:AZ g w d ds []
 big:ds.length≤65536
 fit:st+nn≤ds.length
theorem BX.stp {ix:Nat} {T:List Nat} {g g':Nat→Nat} {w w':World} {k lg d st nn used last:Nat} {sv:Value} {ds:List Sec} (h:BX g w k lg d st nn used last sv ds) (s:Stq ix T g g' w w') (h1:1 ∉ T) (h2:2 ∉ T) (h6:6 ∉ T):BX g' w' k lg d st nn used last sv ds :=
 ⟨h.box.stp s h6,h.log.stp s h2,h.disk.stp s h1,h.big,h.fit⟩
theorem BX.ext {g:Nat→Nat} {w w':World} {k lg d st nn used last:Nat} {sv:Value} {ds:List Sec} (h:BX g w k lg d st nn used last sv ds) (hx:Ext w w') (u:Nat):BX (rt g w u) w' k lg d st nn used last sv ds :=
 ⟨h.box.ext hx u,h.log.ext hx u,h.disk.ext hx u,h.big,h.fit⟩
theorem SlJ.own {g:Nat→Nat} {w w':World} {p:Option Addr} {c:Nat} {bs:List UInt8} (h:Go.V.Own w' w.heap.size 5 Ai p c bs):SlJ (rt g w 0) w' p c bs :=
 ⟨h.sl,fun a ha=>by
  have hbl:blk p=some a.block:=by rw [ha];rfl
  obtain ⟨q1,q2⟩:=h.ge _ hbl
  exact ⟨q2,by rw [CU q1];decide,(Own.noB h (by unfold ixT;decide) hbl).not⟩⟩
def NE:List Value:=[.int .i64 0,.slice none 0 0]
theorem Rj (w:World):(Instr.build 123 [].toArray).run Tryz.prog w=.ok (.agg #[.int .i64 0,.slice none 0 0]) w:=by kernel_rfl
theorem HZ {p:Option Addr} {c:Nat} {k:Int} {bs:List UInt8} {w:World} (hS:Sl w.heap Ai p c bs) (h64:64≤bs.length) (h0:bs[0]?=some 0) :
  Ctr Tryz.prog 113 [.slice p bs.length c,.int .i64 k] w (fun v w'=>v=.tuple #[.agg #[.int .i64 0,.slice none 0 0],.int .i64 0,.bool false]∧Ext w w'):=by
 have hok:=hS.ok
 refine Ac Tryz.func113 Tryz.ntmps113 rfl rfl rfl ?_
 repeat' (refine R1 ?_)
 refine Q1 ?_;refine Q7 T.zero123 ?_;intro a1 w1 ha1 hA1 hx1 hs1
 replace hA1:Blk w1.heap a1 123 NE:=hA1
 repeat' (refine R1 ?_)
 refine Q1 ?_;refine Q7 T.zero138 ?_;intro a2 w2 ha2 hA2 hx2 hs2
 replace hA2:Blk w2.heap a2 138 (BZ.enc Cw):=hA2
 have hx02:=hx1.trans hx2
 obtain ⟨vs,hvs⟩:∃vs,(bs.take 64).map (fun b=>Value.int .u8 (b.toNat:Int))=vs:=⟨_,rfl⟩
 have hvl:vs.length=64:=by rw [← hvs];simp;omega
 have hb2:Sl w2.heap Ai p c bs:=hS.ext hx02
 have hsrc:∀(i:Nat) v,vs[i]?=some v→hcell w2.heap (adr p i)=some v:=fun i v hv=>by
  rw [← hvs,List.getElem?_map] at hv
  obtain ⟨x,hx,rfl⟩:=Option.map_eq_some_iff.1 hv
  rw [List.getElem?_take] at hx
  split at hx
  ·have:=hb2.cell i x hx 0 _ rfl
   simpa [Ai] using this
  ·cases hx
 repeat' (first|refine R1 ?_|(refine Q1 ?_;first|refine Q50 T.ar138 ?_|(refine Q60 vs T.s40 hA2 hsrc (gb:=a2) (o:=0) (hq:=(fun _=>hb2.ok.at (by omega))) (hfit:=by (rw [hvl];decide)) (h1:=(by rw [← hvs];exact Er _)) ?_;intro w3 hA3 hg3 hz3)|refine Q74 T.ar138 ?_)|fail)
 have h3:((BZ.enc Cw).take 0++vs++(BZ.enc Cw).drop (0+vs.length))[0]?=some (.int .u8 0):=by
  rw [List.take_zero,List.nil_append,List.getElem?_append_left (by omega),← hvs,List.getElem?_map,List.getElem?_take,if_pos (by decide),h0]
  rfl
 repeat' (first|(refine Q1 ?_;(refine Q3 (hu:=T.p5) (hb:=hA3) (hv:=h3) ?_))|refine R1 ?_|refine R2 ?_|fail)
 have hA1':=(hA1.ext hx2).grown hg3 (fun e=>by injection e;omega)
 repeat' (refine Q1 ?_;(refine Q20 (.agg #[.int .i64 0,.slice none 0 0]) Rj ?_))
 refine Q1 ?_;refine Q5 T.z123 hA1' ?_;intro w4 hA4 hg4 hs4
 replace hA4:Blk w4.heap a1 123 NE:=hA4
 repeat' (first|refine R1 ?_|refine R2 ?_|fail)
 refine Ze Tryz.results113 ⟨_,_,_,rfl,rfl,Ae T.a123 (by assumption) rfl,_,_,rfl,rfl,_,_,rfl,rfl,rfl⟩ ?_
 exact ⟨rfl,(hx02.own hg3 (fun k hk=>by injection hk;omega)).own hg4 (fun k hk=>by injection hk;omega)⟩
theorem PI {p:Option Addr} {c:Nat} {k:Int} {bs:List UInt8} {w:World} (hS:Sl w.heap Ai p c bs) (h64:bs.length<64∨bs[0]?=some 0) (hl:bs.length≤100000000) :
  Ctr Tryz.prog 114 [.slice p bs.length c,.int .i64 k] w (fun v w'=>v=.tuple #[.slice none 0 0,.bool false]∧Ext w w'):=by
 have hok:=hS.ok
 refine Ac Tryz.func114 Tryz.ntmps114 rfl rfl rfl ?_
 repeat' (first|refine R1 ?_|(refine Q1 ?_;first|(refine Q6 (hu:=T.s40) ?_)|refine Q25 T.s40 ?_)|refine R2 ?_|((fail_if_success (refine Q1 ?_));apply Zb;exact rfl;exact rfl;all_goals (intro h;try (exfalso;omega)))|fail)
 ·refine Kr Tryz.results114 ?_
  exact ⟨rfl,Kz⟩
 ·have h0:bs[0]?=some 0:=h64.resolve_left (by omega)
  repeat' (first|refine R1 ?_|(refine Q1 ?_;(refine Q9 (q:=0) (e:=Ai) (hu:=T.p5) (hs:=hS) (hq:=h0) ?_))|refine R2 ?_|fail)
  refine Kr Tryz.results114 ?_
  exact ⟨rfl,Kz⟩
end Go.Proofs.YtkcolpfanmdmiaaGreatDoor
namespace Go.V
theorem Sl.sec {H:Array Obj} {p:Option Addr} {c:Nat} {ds:List Sec} (h:Sl H BZ p c ds) {i:Nat} {s:Sec} (hi:ds[i]?=some s):Sl H Ai (some (adr p (i * 64))) 64 s.1:=by
 refine ⟨⟨by rw [s.2];exact Nat.le_refl _,by decide,fun h=>(by cases h),fun a ha _=>?_⟩,fun k x hk m v hv=>?_⟩
 ·injection ha with ha
  subst ha
  cases p <;> rfl
 ·have hm:m=0:=by have:=AR hv;simp [Ai] at this;omega
  subst hm
  have hv':Value.int .u8 (x.toNat:Int)=v:=by simpa [Ai] using hv
  have e:adr (some (adr p (i * 64))) (k * Ai.sz+0)=adr p (i * BZ.sz+k):=by
   cases p <;> simp [adr,Ai,BZ,Nat.add_assoc]
  rw [e]
  refine h.cell i s hi k v ?_
  show (s.1.map (fun b=>Value.int .u8 (b.toNat:Int)))[k]?=some v
  rw [List.getElem?_map,hk,← hv'];rfl
end Go.V
namespace Go.Proofs.YtkcolpfanmdmiaaGreatDoor
open Go.V
attribute [local irreducible] Blk Own hcell Ao Ab PlainT Ak Ad Ap Aa Ag EqT Au
theorem Lv {g:Nat→Nat} {w:World} {d:Nat} {ds:List Sec} {at_ n:Nat} (hD:AZ g w d ds []) (h0:∀x∈ds,x=Cw) (hn:1≤n) (ha:at_+n≤ds.length) (hds:ds.length≤65536) {a b:Int} (hA:a=(at_:Int)) (hB:b=(n:Int)) :
  Ctr Tryz.prog 112 [.pointer (some (adr (bx d) 0)),.int .i64 a,.int .i64 b] w (fun v w'=>∃p c bs,v=.tuple #[.slice p bs.length c,.int .i64 0]∧bs=List.replicate (64 * n) 0∧Sl w'.heap Ai p c bs∧Ext w w'):=by
 subst hA hB
 refine Jq Tryz.func112 Tryz.ntmps112 rfl rfl rfl ?_
 repeat' (refine R1 ?_)
 refine Q1 ?_;refine Q8 ?_;intro a4 w1 ha4 hA4 hx1 hs1
 replace hA4:Blk w1.heap a4 3 [.int .i64 (at_:Int)]:=hA4
 skip
 refine Q1 ?_;refine Q8 ?_;intro a5 w2 ha5 hA5 hx2 hs2
 replace hA5:Blk w2.heap a5 3 [.int .i64 (n:Int)]:=hA5
 replace hA4:=hA4.ext hx2
 have hx02:=hx1.trans hx2
 repeat' (first|refine R1 ?_|(refine Q1 ?_;first|(refine Q4 (f:=169) (hc:=NC (hD.ext hx02 0) hn ha) ?_;rintro _ _ ⟨rfl,rfl⟩;refine Kc ?_)|(refine Q4 (f:=170) (hc:=Ha (hD.ext hx02 0)) ?_;rintro _ _ ⟨rfl,rfl⟩;refine Kc ?_)|(refine Q3 (hu:=T.p3) ?_))|refine R2 ?_|fail)
 refine Q1 ?_
 refine Q28 Ai T.s40 ?_
 intro p6 w6 ho6 hx6 hz6
 have hx06:=hx02.trans hx6
 replace hA4:=hA4.ext hx6
 replace hA5:=hA5.ext hx6
 skip
 refine Q1 ?_;refine Q7 T.zero40 ?_;intro a8 w7 ha8 hA8 hx7 hs7
 skip
 refine Q1 ?_;refine Q5 T.z40 hA8 ?_;intro w8 hA8 hg8 hs8
 have hx68:Ext w6 w8:=hx7.own hg8 (fun k hk=>by injection hk;omega)
 have hx08:=hx06.trans hx68
 have ho8:=(ho6.ext hx68).base (Nat.le_trans hx02.size (Nat.le_refl _))
 have hD8:=hD.ext hx08 0
 replace hA4:=hA4.ext hx68
 replace hA5:=hA5.ext hx68
 replace hA8:Blk w8.heap a8 40 [.slice p6 ([]:List UInt8).length (n * 64)]:=hA8
 repeat' (first|refine R1 ?_|(refine Q1 ?_;(refine Q3 (hu:=T.p3) ?_))|refine R2 ?_|fail)
 have hz8:w6.heap.size≤a8:=by omega
 refine Zh (ι:=Nat × List UInt8 × Option Addr × Nat) (fun y=>[(0,.pointer (some (adr (bx d) 0))),(4,.pointer (some (adr (bx a4) 0))),(5,.pointer (some (adr (bx a5) 0))),(8,.pointer (some (adr (bx a8) 0))),(23,.int .i64 (n:Int)),(24,.int .i64 (y.1:Int))])
  (fun y w'=>Ext w w'∧y.1≤n∧y.2.1=List.replicate (64 * y.1) 0∧Go.V.Own w' w.heap.size 5 Ai y.2.2.1 y.2.2.2 y.2.1∧Blk w'.heap a8 40 [.slice y.2.2.1 y.2.1.length y.2.2.2]∧Blk w'.heap a4 3 [.int .i64 (at_:Int)]∧Blk w'.heap a5 3 [.int .i64 (n:Int)]) (fun y=>n - y.1) (0,[],p6,_) ⟨rfl,rfl,rfl,rfl,rfl,rfl,trivial⟩ ⟨hx08,Nat.zero_le _,rfl,ho8,hA8,hA4,hA5⟩ ?_
 rintro ⟨k,L,p,c⟩ w9 ⟨hx9,hk,hL,hO,hB,hA4',hA5'⟩
 simp only at hk hL hO hB
 have h48:a4<a8:=by omega
 have h58:a5<a8:=by omega
 refine Zn [(0,.pointer (some (adr (bx d) 0))),(4,.pointer (some (adr (bx a4) 0))),(5,.pointer (some (adr (bx a5) 0))),(8,.pointer (some (adr (bx a8) 0))),(23,.int .i64 (n:Int)),(24,.int .i64 (k:Int))] ⟨rfl,rfl,rfl,rfl,rfl,rfl,trivial⟩ ?_
 have hD9:=hD.ext hx9 0
 have hn2:=hx02.size
 have hLl:L.length=64 * k:=by rw [hL];exact List.length_replicate
 obtain ⟨pd,cd,pp,cp,h1,h2,h3⟩:=hD9
 have hb1:=h1.blk
 have hok:=h2.sl.ok
 by_cases hlt:k<n
 ·repeat' (first|refine R1 ?_|refine R2 ?_|(apply Za;exact rfl;all_goals (intro h;try (exfalso;omega)))|fail)
  have hi:ds[at_+k]?=some Cw:=by
   obtain ⟨y,hy⟩:=Aj (xs:=ds) (k:=at_+k) (by omega)
   rw [hy,h0 y (List.mem_of_getElem? hy)]
  refine Zl 2 [] (.node [0,1,2,3,6] (.alt 4 (.node [] (.alt 5 (.leaf [7,8,9,10,11]) .stop)) (.alt 5 (.node [7] (.alt 4 (.leaf [8,9,10,11]) .stop)) .stop))) mixed (by decide +kernel) ?_
  have hdr:Ext w9 w9.drew:=Ext.drew Ext.rfl'
  have hBd:=hB.ext hdr
  have hb1d:=hb1.ext hdr
  have hAd:=hA4'.ext hdr
  have hAe:=hA5'.ext hdr
  have hsd:=(h2.sl.ext hdr).sec hi
  have hOd:=hO.ext hdr
  have hz9:=hx9.size
  have hzd:w9.drew.heap.size=w9.heap.size:=rfl
  repeat' (first|refine R1 ?_|(refine Q1 ?_;first|(refine Q10 T.s99 hok (q:=at_+k) (hj:=by omega) ?_)|refine Q50 T.ar139 ?_|(refine Q16 T.s40 hOd hsd (ys:=Cw.1) (hlen:=by (simp only [Cw,List.length_replicate];omega)) (hmax:=by (simp only [Cw,List.length_replicate];omega)) ?_;intro p10 c10 w10 ha10)|(refine Q3 (hu:=by (first|exact T.p3|exact T.p40|exact T.p99)) ?_)|(refine Q2 (hu:=T.f102_0) ?_))|(refine Zj ?_)|(refine Zp ?_)|(apply Zv)|refine R2 ?_|(exact Zq)|fail)
  all_goals
   have hb10:=hBd.grown ha10.grown (hOd.neB hBd (by decide))
   have h410:=hAd.grown ha10.grown (hOd.neB hAd (by decide))
   have h510:=hAe.grown ha10.grown (hOd.neB hAe (by decide))
   refine Q1 ?_;refine Q5 T.z40 hb10 ?_;intro w11 hb11 hg11 hs11
   replace hb11:Blk w11.heap a8 40 [.slice p10 (L++Cw.1).length c10]:=hb11
   repeat' (first|refine R1 ?_|refine R2 ?_|fail)
   have hO11:=ha10.own.kept hg11 (fun a ha e=>by
    injection e with e
    have:=ha10.own.neB hb10 (by decide)
    exact this (by rw [ha,e];rfl))
   exact Zc (k+1,L++Cw.1,p10,c10) ⟨rfl,rfl,rfl,rfl,rfl,rfl,trivial⟩ ⟨((hx9.trans hdr).app ha10 (fun k hk=>(hO.ge k hk).1)).own hg11 (fun k hk=>by injection hk;omega),by simp only;omega,by
    simp only [hL,Cw,List.replicate_append_replicate];congr 1,hO11,hb11,h410.grown hg11 (fun e=>by injection e;omega),h510.grown hg11 (fun e=>by injection e;omega)⟩ (by simp only;omega)
 ·obtain rfl:k=n:=by omega
  repeat' (first|refine R1 ?_|refine R2 ?_|(apply Za;exact rfl;all_goals (intro h;try (exfalso;omega)))|fail)
  all_goals try (exfalso;omega)
  refine Q1 ?_;refine Q4 (hc:=Im) ?_;rintro _ w10 ⟨b0,rfl,hb0,hB0,hx10,hs10⟩;refine Kc ?_
  repeat' (first|refine R1 ?_|refine R2 ?_|fail)
  have hx010:=hx9.trans hx10
  have hB10:=hB.ext hx10
  have hz9:=hx9.size
  refine Zn [(8,.pointer (some (adr (bx a8) 0))),(40,.func (.func 79) #[] #[.pointer (some (adr (bx b0) 0))])] ⟨rfl,rfl,trivial⟩ ?_
  refine Zai (gf:=79) rfl rfl ⟨Tryz.f79,Tryz.func79,by decide,rfl⟩ ?_
  intro fn tmps rec wl hH hrec hl0 hD0 hxl hzl
  obtain ⟨l,hl⟩:∃l,w10.heap.size+1=l:=⟨_,rfl⟩
  obtain ⟨D,hDD⟩:∃D,w10.heap.size=D:=⟨_,rfl⟩
  rw [hl] at hl0 ⊢
  rw [hDD] at hD0 ⊢
  have hxw:=hx010.trans hxl
  have hDl:=hx10.trans hxl
  have key:=GN (ps:=[]) (J:=fun _ w'=>Ext wl w') (l:=l) (hB0.ext hxl) (hb1.ext hDl) (fun k w' hJ=>h3.sl.ext (hDl.trans hJ)) (fun k x w' w3 hx=>by simp at hx) Ext.rfl'
  have hkc:=key.calls
  refine Calls.mono (by simpa using hkc) ?_
  rintro e w11 ⟨v,rfl,hJ11⟩
  have hl11:w11.heap[l]?=some (.loop rec):=hJ11.blk hl0
  have hD11:w11.heap[D]?=some (.deferred (some [])):=hJ11.blk hD0
  refine ⟨⟨v,rfl⟩,rec,hl11,by rw [hrec];simp,by rw [hrec],?_⟩
  obtain ⟨we,hwe⟩:∃we,w11.putObj l (.loop { rec with state:=.exhausted })=we:=⟨_,rfl⟩
  have hge:w11.grownBy we (some l):=by rw [← hwe];exact Br l _
  rw [hwe]
  have hx9e:Ext w9 we:=(hDl.trans hJ11).own hge (fun k hk=>by injection hk;have:=hx10.size;omega)
  have hBe:=hB.ext hx9e
  have hDe:we.heap[D]?=some (.deferred (some [])):=by rw [hge.block D (Array.getElem?_eq_some_iff.1 hD11).1 (fun e=>by injection e;omega)];exact hD11
  repeat' (first|refine R1 ?_|(refine Q1 ?_;(refine Q3 (hu:=T.p40) ?_))|refine R2 ?_|fail)
  have hgD:we.grownBy (we.putObj D (.deferred none)) (some D):=grownBy_putObj' we D _
  have hz10:=hx10.size
  have hx9D:=hx9e.own hgD (fun k hk=>by injection hk;omega)
  refine ZX Tryz.results112 rfl hDe ⟨_,_,rfl,rfl,_,_,rfl,rfl,rfl⟩ ⟨p,c,L,rfl,hL,hO.sl.ext hx9D,hx9.trans hx9D⟩
theorem Vr (d:Nat) (a b:Int) (w:World):(Instr.build 162 [(0,Value.pointer (some (adr (bx d) 0))),(1,Value.int .i64 a),(2,Value.int .i64 b),(4,Value.int .i64 0)].toArray).run Tryz.prog w=.ok (.agg #[.pointer (some (adr (bx d) 0)),.int .i64 a,.int .i64 b,.int .i64 0,.int .i64 0,.bool false]) w:=by kernel_rfl
theorem Rn (d:Nat) (a b:Int) (w:World):(Instr.build 164 [(0,Value.pointer (some (adr (bx d) 0))),(1,Value.int .i64 a),(2,Value.int .i64 b)].toArray).run Tryz.prog w=.ok (.agg #[.pointer (some (adr (bx d) 0)),.int .i64 a,.int .i64 b,.int .i64 0,.bool false]) w:=by kernel_rfl
theorem Ur {g:Nat→Nat} {w:World} {d st nn:Nat} {ds:List Sec} (hD:AZ g w d ds []) (h0:∀x∈ds,x=Cw) (hn:1≤nn) (hf:st+nn≤ds.length) (hds:ds.length≤65536) {a b:Int} (hA:a=(st:Int)) (hB:b=(nn:Int)) :
  Ctr Tryz.prog 74 [.pointer (some (adr (bx d) 0)),.int .i64 a,.int .i64 b,.int .i64 0] w (fun v w'=>∃lg,v=.tuple #[.pointer (some (adr (bx lg) 0)),.slice none 0 0,.int .i64 0]∧w.heap.size≤lg∧Blk w'.heap lg 162 (lgC d st nn 0 0)∧Ext w w'):=by
 subst hA hB
 refine Ac Tryz.func74 Tryz.ntmps74 rfl rfl rfl ?_
 repeat' (first|refine R1 ?_|(refine Q1 ?_;first|(refine Q15 Tryz.underlying68 (t:=68) ?_)|(refine Q4 (f:=112) (hc:=Lv hD h0 hn hf hds rfl rfl) ?_;rintro _ w1 ⟨p,c,bs,rfl,hbs,hsl,hx1⟩;refine Kc ?_)|(refine Q20 (.agg #[.pointer (some (adr (bx d) 0)),.int .i64 (st:Int),.int .i64 (nn:Int),.int .i64 0,.int .i64 0,.bool false]) (Vr _ _ _) ?_))|refine R2 ?_|fail)
 refine Q1 ?_;refine Q8 ?_;intro a13 w2 ha13 hA13 hx2 hs2
 replace hA13:Blk w2.heap a13 162 (lgC d st nn 0 0):=hA13
 have hsl2:=hsl.ext hx2
 have hx02:=hx1.trans hx2
 have hz:=hx1.size
 have hbl:bs.length=64 * nn:=by rw [hbs];exact List.length_replicate
 have hb0:bs[0]?=some 0:=by rw [hbs,List.getElem?_replicate,if_pos (by omega)]
 have hok:=hsl2.ok
 have hsl3:Sl w2.drew.heap Ai (AP p c 0 1) (c - 0) bs:=by
  have h9:=(hsl2.drop (l:=0) (Nat.zero_le _)).ext (Ext.drew (Ext.rfl' (w:=w2)))
  rw [List.drop_zero] at h9;exact h9
 repeat' (first|refine R1 ?_|refine R2 ?_|fail)
 refine Zm ?_
 repeat' (first|refine R1 ?_|(refine Q1 ?_;first|(refine Q18 T.s40 hok (q:=0) (hj:=by omega) ?_)|(refine Q4 (f:=114) (hc:=PI (bs:=bs) hsl3 (.inr hb0) (by omega)) ?_;rintro _ w3 ⟨rfl,hx3⟩;refine Kc ?_;replace hA13:=hA13.ext (Kx hx3))|(refine Q2 (hu:=by (first|exact T.f162_4|exact T.f162_3)) ?_)|(refine Q3 (hu:=T.p3) ?_))|refine R2 ?_|refine Zf 1 [] [0,1,2,3,4,5,6,7,8,9,10,11,12,13,14,15,16,17] mixed (by decide +kernel) ?_|fail)
 refine Kr Tryz.results74 ?_
 exact ⟨a13,rfl,by omega,hA13,(Ext.drew hx02).trans hx3⟩
theorem Ov {p:Option Addr} {c n:Nat} {k:Int} {bs:List UInt8} {w:World} (hS:Sl w.heap Ai p c bs) (hn:bs.length=n) (h64:64≤n) (h0:bs[0]?=some 0) :
  Ctr Tryz.prog 113 [.slice p n c,.int .i64 k] w (fun v w'=>v=.tuple #[.agg #[.int .i64 0,.slice none 0 0],.int .i64 0,.bool false]∧Ext w w'):=by
 subst hn;exact HZ hS h64 h0
theorem Qh {g:Nat→Nat} {w:World} {d each:Nat} {ds:List Sec} (hD:AZ g w d ds []) (h0:∀x∈ds,x=Cw) (hn:1≤each) (hf:2 * each≤ds.length) (hds:ds.length≤65536) {b:Int} (hB:b=(each:Int)) :
  Ctr Tryz.prog 73 [.pointer (some (adr (bx d) 0)),.int .i64 0,.int .i64 b] w (fun v w'=>∃sl,v=.tuple #[.pointer (some (adr (bx sl) 0)),.agg #[.int .i64 0,.slice none 0 0],.bool false,.int .i64 0]∧w.heap.size≤sl∧Blk w'.heap sl 164 [.pointer (some (adr (bx d) 0)),.int .i64 0,.int .i64 (each:Int),.int .i64 0,.bool false]∧Ext w w'):=by
 subst hB
 refine Ac Tryz.func73 Tryz.ntmps73 rfl rfl rfl ?_
 repeat' (refine R1 ?_)
 refine Q1 ?_;refine Q7 T.zero123 ?_;intro a7 w1 ha7 hA7 hx1 hs1
 replace hA7:Blk w1.heap a7 123 NE:=hA7
 repeat' (first|refine R1 ?_|(refine Q1 ?_;first|(refine Q15 Tryz.underlying68 (t:=68) ?_)|(refine Q4 (f:=112) (hc:=Lv (at_:=0) (n:=2 * each) (hD.ext hx1 0) h0 (by omega) (by omega) hds rfl (by omega)) ?_;rintro _ w2 ⟨p,c,bs,rfl,hbs,hsl,hx2⟩;refine Kc ?_;replace hA7:=hA7.ext (Kx hx2))|(refine Q20 (.agg #[.pointer (some (adr (bx d) 0)),.int .i64 0,.int .i64 (each:Int),.int .i64 0,.bool false]) (Rn _ _ _) ?_))|refine R2 ?_|(apply Za;exact rfl;all_goals (intro h;try (exfalso;omega)))|((fail_if_success (refine Q1 ?_));apply Zb;exact rfl;exact rfl;all_goals (intro h;try (exfalso;omega)))|fail)
 refine Q1 ?_;refine Q8 ?_;intro a12 w3 ha12 hA12 hx3 hs3
 replace hA12:Blk w3.heap a12 164 [.pointer (some (adr (bx d) 0)),.int .i64 0,.int .i64 (each:Int),.int .i64 0,.bool false]:=hA12
 repeat' (refine R1 ?_)
 refine Q1 ?_;refine Q7 T.zero123 ?_;intro a13 w4 ha13 hA13 hx4 hs4
 replace hA13:Blk w4.heap a13 123 NE:=hA13
 have hz1:=hx1.size
 have hz2:=hx2.size
 have hx24:=hx3.trans hx4
 have hsl4:=hsl.ext hx24
 replace hA7:=hA7.ext hx24
 replace hA12:=hA12.ext hx4
 have hbl:bs.length=64 * (2 * each):=by rw [hbs];exact List.length_replicate
 have hok:=hsl4.ok
 have hcap:=hok.le
 have hS0:=(hsl4.drop (l:=0) (Nat.zero_le _)).take (each * 64)
 have hS1:=(hsl4.drop (l:=each * 64) (by omega)).take (each * 64)
 repeat' (first|refine R1 ?_|refine R2 ?_|fail)
 refine Zm ?_
 repeat' (first|refine R1 ?_|(refine Q1 ?_;first|(refine Q29 T.s40 (q:=0) (r:=each * 64) (hj:=by omega) ?_)|(refine Q4 (f:=113) (hc:=Ov (bs:=(bs.drop (0)).take (each * 64)) hS0 (by simp [hbs];omega) (by omega) (by simp [hbs,List.getElem?_replicate];omega)) ?_;rintro _ w5a ⟨rfl,hx5a⟩;refine Kc ?_))|refine R2 ?_|fail)
 all_goals try (exfalso;omega)
 refine Q1 ?_;refine Q7 T.zero123 ?_;intro a6a w6a ha6a hA6a hx6a hs6a
 skip
 refine Q1 ?_;refine Q5 T.z123 hA6a ?_;intro w7a hA6a hg7a hs7a
 replace hA6a:Blk w7a.heap a6a 123 NE:=hA6a
 have hx57a:=(hx5a.trans hx6a).own hg7a (fun k hk=>by injection hk;have:=hx5a.size;omega)
 replace hA7:=hA7.ext hx57a
 replace hA12:=hA12.ext hx57a
 replace hA13:=hA13.ext hx57a
 repeat' (first|refine R1 ?_|refine R2 ?_|fail)
 refine Zg ?_
 replace hS1:=hS1.ext hx57a
 repeat' (first|refine R1 ?_|(refine Q1 ?_;first|(refine Q29 T.s40 (q:=each * 64) (r:=2 * (each * 64)) (hj:=by omega) ?_)|(refine Q4 (f:=113) (hc:=Ov (bs:=(bs.drop (each * 64)).take (each * 64)) hS1 (by simp [hbs];omega) (by omega) (by simp [hbs,List.getElem?_replicate];omega)) ?_;rintro _ w5b ⟨rfl,hx5b⟩;refine Kc ?_))|refine R2 ?_|fail)
 all_goals try (exfalso;omega)
 refine Q1 ?_;refine Q7 T.zero123 ?_;intro a6b w6b ha6b hA6b hx6b hs6b
 skip
 refine Q1 ?_;refine Q5 T.z123 hA6b ?_;intro w7b hA6b hg7b hs7b
 replace hA6b:Blk w7b.heap a6b 123 NE:=hA6b
 have hx57b:=(hx5b.trans hx6b).own hg7b (fun k hk=>by injection hk;have:=hx5b.size;omega)
 replace hA7:=hA7.ext hx57b
 replace hA12:=hA12.ext hx57b
 replace hA13:=hA13.ext hx57b
 repeat' (first|refine R1 ?_|refine R2 ?_|fail)
 refine Zg ?_
 repeat' (first|refine R1 ?_|refine R2 ?_|fail)
 refine Zl 2 [] (.node [0,1,2,3,4,7] (.alt 5 (.leaf [6,8,9,10]) (.alt 8 (.leaf [5,6,9,10]) .stop))) mixed (by decide +kernel) ?_
 have hdr:Ext w7b w7b.drew:=Ext.drew Ext.rfl'
 replace hA7:=hA7.ext hdr
 replace hA12:=hA12.ext hdr
 replace hA13:=hA13.ext hdr
 have hA13v:Blk w7b.drew.heap a13 123 [.int .i64 0,.slice none 0 0]:=hA13
 repeat' (first|refine R1 ?_|(refine Q1 ?_;first|(refine Q11 T.a123 (hb:=hA13v) ?_)|(refine Q2 (hu:=T.f164_3) ?_)|(refine Q3 (hu:=T.p3) ?_))|(refine Zj ?_)|(refine Zp ?_)|(apply Zv)|refine R2 ?_|(exact Zq)|fail)
 all_goals
  have hx08:=((((hx1.trans hx2).trans hx24).trans hx57a).trans hx57b).trans hdr
  refine Q1 ?_;refine Q5 T.z123 hA7 ?_;intro w9 hA9 hg9 hs9
  replace hA9:Blk w9.heap a7 123 NE:=hA9
  have hA12':=hA12.grown hg9 (fun e=>by injection e;omega)
  repeat' (first|refine R1 ?_|(refine Q1 ?_;(refine Q3 (hu:=T.p3) ?_))|(refine Zj ?_)|refine R2 ?_|fail)
  refine Ze Tryz.results73 ⟨_,_,rfl,rfl,_,_,_,rfl,rfl,Ae T.a123 (by assumption) rfl,_,_,rfl,rfl,_,_,rfl,rfl,rfl⟩ ?_
  exact ⟨a12,rfl,by omega,hA12',hx08.own hg9 (fun k hk=>by injection hk;omega)⟩
theorem Ro (ix:Nat) (w:World):(Instr.build 86 [(0,Value.pointer (some (adr (bx ix) 0)))].toArray).run Tryz.prog w=.ok (.agg #[.pointer (some (adr (bx ix) 0)),.int .i64 0,.int .i64 0]) w:=by kernel_rfl
theorem OX (lg sl:Nat) (w:World):(Instr.build 117 [(0,Value.pointer (some (adr (bx lg) 0))),(1,Value.pointer (some (adr (bx sl) 0)))].toArray).run Tryz.prog w=.ok (.agg #[.pointer (some (adr (bx lg) 0)),.pointer (some (adr (bx sl) 0))]) w:=by kernel_rfl
theorem SQ {key:ByteArray} {w:World}:Ctr Tryz.prog 75 [] w (fun v w'=>∃st ix,v=.pointer (some (adr (bx st) 0))∧w.heap.size≤ix∧ix<st∧StR w' st ix (fun _=>False) key [] 0 0∧Ext w w'):=by
 refine Ac Tryz.func75 Tryz.ntmps75 rfl rfl rfl ?_
 repeat' (first|refine R1 ?_|(refine Q1 ?_;first|(refine Q4 (f:=116) (hc:=XA) ?_;rintro _ w1 ⟨ix,rfl,hix,hI,hx1⟩;refine Kc ?_)|(refine Q20 (.agg #[.pointer (some (adr (bx ix) 0)),.int .i64 0,.int .i64 0]) (Ro _) ?_))|fail)
 refine Q1 ?_;refine Q8 ?_;intro a1 w2 ha1 hA1 hx2 hs2
 replace hA1:Blk w2.heap a1 86 [.pointer (some (adr (bx ix) 0)),.int .i64 ((0:Nat):Int),.int .i64 ((0:Nat):Int)]:=hA1
 repeat' (first|refine R1 ?_|refine R2 ?_|fail)
 refine Kr Tryz.results75 ?_
 have hlt:=hI.lt
 exact ⟨a1,ix,rfl,by omega,by omega,⟨hA1,hI.ext hx2,TxC.nil,by omega,fun k hk=>hk.elim⟩,hx1.trans hx2⟩
theorem RO {key:ByteArray} {g:Nat→Nat} {w:World} {d each nn:Nat} {ds:List Sec} (hD:AZ g w d ds []) (h0:∀x∈ds,x=Cw) (he:1≤each) (hn:1≤nn) (hf:2 * each+nn≤ds.length) (hds:ds.length≤65536) :
  Ctr Tryz.prog 51 [.pointer (some (adr (bx d) 0)),.agg #[.int .i64 (each:Int),.int .i64 (nn:Int)]] w (fun v w'=>∃k lg sl st ix,v=.tuple #[.pointer (some (adr (bx k) 0)),.pointer (some (adr (bx st) 0)),.int .i64 0]∧w.heap.size≤k∧w.heap.size≤lg∧w.heap.size≤sl∧w.heap.size≤ix∧ix<st∧Blk w'.heap k 117 [.pointer (some (adr (bx lg) 0)),.pointer (some (adr (bx sl) 0))] ∧
   Blk w'.heap lg 162 (lgC d (2 * each) nn 0 0)∧Blk w'.heap sl 164 [.pointer (some (adr (bx d) 0)),.int .i64 0,.int .i64 (each:Int),.int .i64 0,.bool false]∧StR w' st ix (fun _=>False) key [] 0 0∧Ext w w'):=by
 refine Ac Tryz.func51 Tryz.ntmps51 rfl rfl rfl ?_
 repeat' (refine R1 ?_)
 refine Q1 ?_;refine Q8 ?_;intro a3 w1 ha3 hA3 hx1 hs1
 replace hA3:Blk w1.heap a3 26 [.int .i64 (each:Int),.int .i64 (nn:Int)]:=hA3
 repeat' (first|refine R1 ?_|(refine Q1 ?_;first|(refine Q15 Tryz.underlying68 (t:=68) ?_)|(refine Q4 (f:=73) (hc:=Qh (hD.ext hx1 0) h0 he (by omega) hds rfl) ?_;rintro _ w2 ⟨sl,rfl,hsl,hSl,hx2⟩;refine Kc ?_;replace hA3:=hA3.ext (Kx hx2))|(refine Q2 (hu:=T.f26_0) ?_)|(refine Q3 (hu:=T.p3) ?_))|refine R2 ?_|fail)
 refine Q1 ?_;refine Q7 T.zero123 ?_;intro a8 w3 ha8 hA8 hx3 hs3
 repeat' (refine Q1 ?_;refine Q39 ?_)
 refine Q1 ?_;refine Q5 T.z123 hA8 ?_;intro w4 hA8 hg4 hs4
 replace hA8:Blk w4.heap a8 123 NE:=hA8
 have hz2:=hx2.size
 have hx24:=hx3.own hg4 (fun k hk=>by injection hk;omega)
 replace hA3:=hA3.ext hx24
 have hx04:=(hx1.trans hx2).trans hx24
 have hA8v:Blk w4.heap a8 123 [.int .i64 0,.slice none 0 0]:=hA8
 repeat' (first|refine R1 ?_|(refine Q1 ?_;first|(refine Q4 (f:=74) (hc:=Ur (st:=2 * each) (nn:=nn) (hD.ext hx04 0) h0 hn hf hds (by omega) rfl) ?_;rintro _ w5 ⟨lg,rfl,hlg,hLg,hx5⟩;refine Kc ?_;replace hA3:=hA3.ext (Kx hx5);replace hA8v:=hA8v.ext (Kx hx5))|(refine Q4 (f:=75) (hc:=SQ (key:=key)) ?_;rintro _ w6 ⟨st,ix,rfl,hix,hst,hSt,hx6⟩;refine Kc ?_;replace hA3:=hA3.ext (Kx hx6);replace hA8v:=hA8v.ext (Kx hx6))|(refine Q2 (hu:=by (first|exact T.f26_0|exact T.f26_1|exact T.f123_0)) ?_)|(refine Q3 (hu:=T.p3) ?_)|(refine Q6 (hu:=T.s180) ?_))|refine R2 ?_|fail)
 refine Zm ?_
 repeat' (first|refine R1 ?_|(refine Q1 ?_;(refine Q20 (.agg #[.pointer (some (adr (bx lg) 0)),.pointer (some (adr (bx sl) 0))]) (OX _ _) ?_))|refine R2 ?_|fail)
 all_goals try (exfalso;omega)
 refine Q1 ?_;refine Q8 ?_;intro a9 w7 ha9 hA9 hx7 hs7
 replace hA9:Blk w7.heap a9 117 [.pointer (some (adr (bx lg) 0)),.pointer (some (adr (bx sl) 0))]:=hA9
 repeat' (first|refine R1 ?_|refine R2 ?_|fail)
 refine Kr Tryz.results51 ?_
 have hz1:=hx1.size
 have hz4:=hx24.size
 have hz5:=hx5.size
 have hz6:=hx6.size
 have hx47:=(hx5.trans hx6).trans hx7
 exact ⟨a9,lg,sl,st,ix,rfl,by omega,by omega,by omega,by omega,hst,hA9,hLg.ext (hx6.trans hx7),hSl.ext (hx24.trans hx47),hSt.ext hx7,hx04.trans hx47⟩
end Go.Proofs.YtkcolpfanmdmiaaGreatDoor
namespace Go.V
theorem Dr.cells {H H':Array Obj} (h:∀a v,hcell H a=some v→hcell H' a=some v) {d:Nat} {p:Option Addr} {c:Nat} {rs:List Bg} {ts:List Rep} (k:Dr H d p c rs ts):Dr H' d p c rs ts :=
 ⟨k.sl.cells h,k.len,fun i r t hr ht=>(k.get i r t hr ht).cells h⟩
theorem Own.take {α:Type} {e:Enc α} {w:World} {B T:Nat} {p:Option Addr} {c:Nat} {xs:List α} (h:Own w B T e p c xs) (k:Nat):Own w B T e p c (xs.take k):=by
 have hft:∀(l:List α) (k:Nat),(l.take k).flatMap e.enc=(l.flatMap e.enc).take (k * e.sz):=by
  intro l
  induction l with
  | nil=>intro k;simp
  | cons x l ih =>
   intro k
   cases k with
   | zero=>simp
   | succ k =>
    rw [List.take_succ_cons,List.flatMap_cons,List.flatMap_cons,ih,List.take_append,e.len,show (k+1) * e.sz - e.sz=k * e.sz by rw [Nat.succ_mul];omega,List.take_of_length_le (l:=e.enc x) (by rw [e.len,Nat.succ_mul];omega)]
 have hlen:∀l:List α,(l.flatMap e.enc).length=l.length * e.sz:=by
  intro l
  induction l with
  | nil=>simp
  | cons x l ih=>rw [List.flatMap_cons,List.length_append,ih,e.len,List.length_cons,Nat.succ_mul];omega
 unfold Own World.ownsRow at h ⊢
 obtain ⟨_,h⟩:=h
 refine ⟨hlen _,?_⟩
 rcases h with ⟨hv,hn⟩|⟨g,cap,cur,hv,hb,hg,hnc,hcm,hcs,ht⟩
 ·obtain rfl:=List.eq_nil_of_length_eq_zero hn
  exact .inl ⟨by simpa using hv,by simp⟩
 ·injection hv with hp _ hc
  subst hp hc
  refine .inr ⟨g,c,cur,rfl,hb,hg,Nat.le_trans (by simp;omega) hnc,hcm,hcs,?_⟩
  rw [hft,← ht,List.take_take]
  congr 1
  rw [List.length_take]
  by_cases hk:k≤xs.length
  ·rw [Nat.min_eq_left hk]
   exact (Nat.min_eq_left (Nat.mul_le_mul_right _ hk)).symm
  ·rw [Nat.min_eq_right (by omega)]
   exact (Nat.min_eq_right (Nat.mul_le_mul_right _ (by omega))).symm
variable {g : Option (Nat × Bool)} {t te : TypeId}
theorem Q120 {p:Addr} {q:Addr} {j:TypeInfo} (hx:E.look x=some (.pointer (some p))) (hy:E.look y=some (.pointer (some q))) (hp:P.underlying t=some (.pointer te)) (hte:P.info? te=some j) (hsz:j.size≠0) (ha:∃ca ta,w.heap[p.block]?=some (.cells ca ta (0,0))) (hb:∃cb tb,w.heap[q.block]?=some (.cells cb tb (0,0))) (hd:Ah n d=true) (h:G P n ops (dq,[]) l (E.put d (.bool (decide (p=q)))) w K):G1 P n ops (dq,[]) ⟨d,.binOp .eql t x y t',ty,pos,af,g⟩ l E w K :=
 Zd _ hd (fun a he w' hw=>by
  obtain ⟨ca,ta,ha⟩:=ha
  obtain ⟨cb,tb,hb⟩:=hb
  have hx':=Ej hw (by simp [Bi,hp])
  have ha':=hx'.blk ha
  have hb':=hx'.blk hb
  by_cases e:p=q
  ·subst e
   simp [execOp,he.eval hx,he.eval hy,eqGuard,run_eql_ptr_same w' p hp hte]
  ·simp [execOp,he.eval hx,he.eval hy,eqGuard,e,run_eql_ptr_other w' hp hte hsz e ha' hb']) h
theorem Q58 (h:G P n ops dr l (E.put d (.bool false)) w K) (hx:E.look x=some (.string s):=by exact rfl) (hy:E.look y=some (.string s'):=by exact rfl) (he:s=s':=by exact rfl) (hd:Ah n d=true:=by exact rfl):G1 P n ops dr ⟨d,.binOp .neq t x y t',ty,pos,af,g⟩ l E w K :=
 Zag hx hy hd (by rw [decide_eq_false (fun hn=>hn he)];exact h)
theorem Q59 (he:¬s=s') (h:G P n ops dr l (E.put d (.bool true)) w K) (hx:E.look x=some (.string s):=by exact rfl) (hy:E.look y=some (.string s'):=by exact rfl) (hd:Ah n d=true:=by exact rfl):G1 P n ops dr ⟨d,.binOp .neq t x y t',ty,pos,af,g⟩ l E w K :=
 Zag hx hy hd (by rw [decide_eq_true he];exact h)
structure Mv where
 pa:Option Addr
 na:Nat
 ca:Nat
 pb:Option Addr
 nb:Nat
 cb:Nat
 L:Int
 N:Int
 ta:Option Addr
 tn:Nat
 tc:Nat
 ua:Option Addr
 un:Nat
 uc:Nat
abbrev Mv.trail (r:Mv):Value:=.agg #[.int .i64 r.L,.int .i64 r.N,.slice r.ta r.tn r.tc,.slice r.ua r.un r.uc]
def Mv.step (r:Mv) (p:Option Addr) (n c:Nat) (q:Option Addr) (m d:Nat):Mv :=
 if r.N≤r.L+1 then { r with L:=r.L+1,N:=2 * (r.L+1),ta:=p,tn:=n,tc:=c,ua:=q,un:=m,uc:=d } else { r with L:=r.L+1 }
def Vk (H:Array Obj) (p:Option Addr):Prop:=∃cs t,H[(adr p 0).block]?=some (.cells cs t (0,0))
theorem Vk.ext {w w':World} {p:Option Addr} (h:Vk w.heap p) (hx:Ext w w'):Vk w'.heap p:=by
 obtain ⟨cs,t,h⟩:=h
 exact ⟨cs,t,hx.blk h⟩
noncomputable abbrev clear (H:Array Obj):Array Obj:=veil (fun _=>False) H
theorem GZ {w w':World} (hx:Ext w w'):∀a v,hcell (clear w.heap) a=some v→hcell (clear w'.heap) a=some v:=fun a v h=>by
 obtain ⟨h1,⟨o,ho,hp⟩,h2⟩:=BQ.1 h
 exact BQ.2 ⟨h1,⟨o,hx.blk ho,hp⟩,hx.cell h2⟩
structure Js (H:Array Obj) (r:Mv) (ls:List Rep) (D:Int):Prop where
 lo:0≤r.L
 hi:r.L≤D
 n0:0≤r.N
 n1:r.N≤2 * D
 oka:Okp r.ta r.tn r.tc
 okb:Okp r.ua r.un r.uc
 old:r.tn=0∨∃e rs ts,Dr (clear H) e r.ta r.tc rs ts∧rs.length=r.tn∧SizeOf.sizeOf ls≤SizeOf.sizeOf ts
 oldb:r.un=0∨Vk H r.ua
structure OT (H:Array Obj) (M:Nat) (r:Mv) (e:Nat) (ls us:List Rep):Prop where
 a:∃rs,Dr (clear H) e r.pa r.ca rs ls∧rs.length=r.na
 b:∃e' rs,Dr (clear H) e' r.pb r.cb rs us∧rs.length=r.nb
 len:ls.length=us.length
 pos:0<ls.length
 tr:Js H r ls ((M:Int) - e)
 le:e≤M
theorem Js.ext {w w':World} {r:Mv} {ls:List Rep} {D:Int} (h:Js w.heap r ls D) (hx:Ext w w'):Js w'.heap r ls D :=
 ⟨h.lo,h.hi,h.n0,h.n1,h.oka,h.okb,h.old.imp id (fun ⟨e,rs,ts,h1,h2⟩=>⟨e,rs,ts,h1.cells (GZ hx),h2⟩),h.oldb.imp id (fun h=>h.ext hx)⟩
theorem OT.ext {w w':World} {M e:Nat} {r:Mv} {ls us:List Rep} (h:OT w.heap M r e ls us) (hx:Ext w w'):OT w'.heap M r e ls us:=by
 obtain ⟨rs,h1,h2⟩:=h.a
 obtain ⟨e',rs',h3,h4⟩:=h.b
 exact ⟨⟨rs,h1.cells (GZ hx),h2⟩,⟨e',rs',h3.cells (GZ hx),h4⟩,h.len,h.pos,h.tr.ext hx,h.le⟩
end Go.V
namespace Go.Proofs.YtkcolpfanmdmiaaGreatDoor
open Go.V
attribute [local irreducible] Blk Own hcell Ao Ab PlainT Ak Ad Ap Aa Ag EqT Au
end Go.Proofs.YtkcolpfanmdmiaaGreatDoor
namespace Go.V
structure TG where
 t:Nat
 start:Int
 clk:Int
 ro:Bool
 mp:Nat
end Go.V
namespace Go.Proofs.YtkcolpfanmdmiaaGreatDoor
open Go.V
attribute [local irreducible] Blk Own hcell Ao Ab PlainT Ak Ad Ap Aa Ag EqT Au
structure Cf (g:Nat→Nat) (w:World) (st ix:Nat) (key:ByteArray) (vs:List Ver) (last mark:Nat):Prop where
 ex:∃F,StR w st ix F key vs last mark∧∀k,F k→g k=3
 tag:g st=3
theorem Ix.typ' {w:World} {ix:Nat} {F:Nat→Prop} {L:List KV} (h:Ix w ix F L) {k:Nat} (hk:F k):NoB w k:=by
 obtain ⟨_,_,_,h1,_,_⟩:=h;exact h1.typ k hk
theorem StR.keep {w w':World} {st ix:Nat} {F:Nat→Prop} {key:ByteArray} {vs:List Ver} {last mark:Nat} (h:StR w st ix F key vs last mark) {G:Nat→Prop} (hc:Chg G w w') (h1:¬G st) (h2:∀k,F k→¬G k) (h3:∀k,ix≤k→IxB w k→¬G k):StR w' st ix F key vs last mark :=
 ⟨Blk.chg h.box hc h1,h.ix.chgL hc h2 h3,h.good,h.fit,h.ap⟩
theorem Cf.stp {ix:Nat} {T:List Nat} {g g':Nat→Nat} {w w':World} {st:Nat} {key:ByteArray} {vs:List Ver} {last mark:Nat} (h:Cf g w st ix key vs last mark) (s:Stq ix T g g' w w') (hT:3 ∉ T):Cf g' w' st ix key vs last mark:=by
 obtain ⟨⟨F,h1,h2⟩,h3⟩:=h
 have hlt:=h1.box.lt
 have hc:Chg (fun k=>¬(w'.heap[k]?=w.heap[k]?)) w w':=⟨s.os,s.tape,s.output,s.size,fun k _ hn=>Classical.not_not.1 hn⟩
 refine ⟨⟨F,h1.keep hc (fun hn=>hn ?_) (fun k hk hn=>hn ?_) (fun k h4 h5 hn=>hn ?_),fun k hk=>?_⟩,by rw [s.tags st hlt];exact h3⟩
 ·exact s.block st hlt (fun _=>hT) (fun _=>by rw [h3];exact hT)
 ·exact s.block k (h1.ix.typ' hk).lt (fun _=>hT) (fun _=>by rw [h2 k hk];exact hT)
 ·obtain ⟨cs,tt,fr,q1,q2⟩:=h5
  exact s.block k (Array.getElem?_eq_some_iff.1 q1).1 (fun _=>hT) (fun hn2=>absurd ⟨h4,cs,tt,fr,q1,q2⟩ hn2)
 ·rw [s.tags k (h1.ix.typ' hk).lt];exact h2 k hk
theorem Cf.ext {g:Nat→Nat} {w w':World} {st ix:Nat} {key:ByteArray} {vs:List Ver} {last mark:Nat} (h:Cf g w st ix key vs last mark) (hx:Ext w w') (u:Nat):Cf (rt g w u) w' st ix key vs last mark :=
 h.stp (T:=[]) (Stq.of_ext hx u) (by simp)
theorem Cf.turn {g:Nat→Nat} {w w':World} {st ix:Nat} {F':Nat→Prop} {key:ByteArray} {vs us:List Ver} {last mark last' mark':Nat} {F:Nat→Prop} (h0:StR w st ix F key vs last mark) (hF:∀k,F k→g k=3) (ht:g st=3)
  (h1:StR w' st ix F' key us last' mark') (h2:∀k,F' k→F k∨w.heap.size≤k) (hc:Chg (fun k=>k=st∨ix≤k∧IxB w k) w w'):Stq ix [3] g (rt g w 3) w w'∧Cf (rt g w 3) w' st ix key us last' mark':=by
 refine ⟨⟨hc.os,hc.tape,hc.output,hc.size,fun k hk h3 h4=>hc.block k hk (fun e=>?_),fun k hk=>AY hk⟩,⟨⟨F',h1,fun k hk=>?_⟩,by rw [AY h0.box.lt];exact ht⟩⟩
 ·rcases e with e|e
  ·subst e
   have hn:¬IxK ix w k:=fun e=>(Blk.noB h0.box (by unfold ixT;decide)).not e.2
   exact h4 hn (by rw [ht];simp)
  ·exact h3 e (by simp)
 ·rcases h2 k hk with h5|h5
  ·rw [AY (h0.ix.typ' h5).lt];exact hF k h5
  ·exact CU h5
def tgC (m:Nat) (a:TG):List Value:=[.pointer (some (adr (bx m) 0)),.int .i64 a.start,.int .i64 a.clk,.bool a.ro,.map (some a.mp)]
structure AL (g:Nat→Nat) (w:World) (m st k:Nat) (clk:Int) (ts:List TG):Prop where
 ex:∃pa ca,Bk g w 4 m 54 [.pointer (some (adr (bx st) 0)),.iface 79 (.pointer (some (adr (bx k) 0))),.int .i64 clk,.slice pa (ts.map TG.t).length ca]∧Rw g w 4 108 ePt pa ca (ts.map TG.t)
 act:∀a∈ts,Bk g w 5 a.t 111 (tgC m a)
 nodup:(ts.map TG.t).Nodup
 few:ts.length≤10
theorem AL.stp {ix:Nat} {T:List Nat} {g g':Nat→Nat} {w w':World} {m st k:Nat} {clk:Int} {ts:List TG} (h:AL g w m st k clk ts) (s:Stq ix T g g' w w') (h4:4 ∉ T) (h5:5 ∉ T):AL g' w' m st k clk ts:=by
 obtain ⟨⟨pa,ca,h1,h2⟩,h3,h6,h7⟩:=h
 exact ⟨⟨pa,ca,h1.stp s h4,h2.stp s h4⟩,fun a ha=>(h3 a ha).stp s h5,h6,h7⟩
theorem AL.ext {g:Nat→Nat} {w w':World} {m st k:Nat} {clk:Int} {ts:List TG} (h:AL g w m st k clk ts) (hx:Ext w w') (u:Nat):AL (rt g w u) w' m st k clk ts:=h.stp (ix:=0) (T:=[]) (Stq.of_ext hx u) (by simp) (by simp)
structure BF (g:Nat→Nat) (w:World) (mp:Nat) (o:Option Wt):Prop where
 map:Cy Tryz.prog w 9 mp (IM o)
 tag:g mp=7
 ok:∀x,o=some x→TxW x
theorem BF.stp {ix:Nat} {T:List Nat} {g g':Nat→Nat} {w w':World} {mp:Nat} {o:Option Wt} (h:BF g w mp o) (s:Stq ix T g g' w w') (h7:7 ∉ T):BF g' w' mp o:=by
 obtain ⟨es,clock,h1⟩:=h.map.obj
 refine ⟨h.map.same (s.block mp h.map.lt (fun e=>absurd e.2 (Gx h1 rfl)) (fun _=>by rw [h.tag];exact h7)),by rw [s.tags mp h.map.lt];exact h.tag,h.ok⟩
theorem BF.ext {g:Nat→Nat} {w w':World} {mp:Nat} {o:Option Wt} (h:BF g w mp o) (hx:Ext w w') (u:Nat):BF (rt g w u) w' mp o:=h.stp (ix:=0) (T:=[]) (Stq.of_ext hx u) (by simp)
theorem BF.txn {g:Nat→Nat} {w:World} {m st k:Nat} {clk:Int} {ts:List TG} {a:TG} {o:Option Wt} (h:BF g w a.mp o) (hM:AL g w m st k clk ts) (ha:a∈ts):Gg w a.t m a.start a.clk a.ro a.mp o:=⟨(hM.act a ha).blk,h.map,h.ok⟩
end Go.Proofs.YtkcolpfanmdmiaaGreatDoor
namespace Go.V
variable {g : Option (Nat × Bool)} {t tp : TypeId} {v : Value} {ms : Array (String × TypeId)}
theorem Zav {ms} (hu:P.underlying t=some (.interface ms)) (hx:E.look x=some (.iface tp v)) (hd:Ah n d=true) (h:G P n ops dr l (E.put d (.bool false)) w K):G1 P n ops dr ⟨d,.binOp .eql t x (.const .nilIface) t',ty,pos,af,g⟩ l E w K :=
 Zd _ hd (fun a ha w' _=>by
  have e0:a.eval (.const .nilIface)=.nilIface:=rfl
  have key:∀k,(Op.equalIn (k+1) t (.iface tp v) .nilIface).run P w'=.ok false w':=fun k=>by rw [Op.equalIn];simp [run_underlying hu]
  have e1:(Op.equal t (.iface tp v) .nilIface).run P w'=.ok false w':=key 9999
  simp [execOp,ha.eval hx,e0,binOp,eqGuard,e1]) h
end Go.V
namespace Go.Proofs.YtkcolpfanmdmiaaGreatDoor
open Go.V
attribute [local irreducible] Blk Own hcell Ao Ab PlainT Ak Ad Ap Aa Ag EqT Au
theorem Vs (st:Nat) (v:Value) (w:World):(Instr.build 54 [(0,Value.pointer (some (adr (bx st) 0))),(1,Value.iface 79 v)].toArray).run Tryz.prog w=.ok (.agg #[.pointer (some (adr (bx st) 0)),.iface 79 v,.int .i64 0,.slice none 0 0]) w:=by kernel_rfl
theorem Vv (m mp:Nat) (a b:Int) (ro:Bool) (w:World):(Instr.build 111 [(0,Value.pointer (some (adr (bx m) 0))),(1,Value.int .i64 a),(2,Value.int .i64 b),(3,Value.bool ro),(4,Value.map (some mp))].toArray).run Tryz.prog w=.ok (.agg #[.pointer (some (adr (bx m) 0)),.int .i64 a,.int .i64 b,.bool ro,.map (some mp)]) w:=by kernel_rfl
variable {ts : List TG}
theorem We {v:Value} (hv:v=.pointer (some (adr (bx k) 0))):Ctr Tryz.prog 52 [.pointer (some (adr (bx st) 0)),.iface 79 v] w (fun x w'=>∃m,x=.tuple #[.pointer (some (adr (bx m) 0)),.int .i64 0]∧w.heap.size≤m∧AL (rt g w 4) w' m st k 0 []∧Ext w w'):=by
 subst hv
 refine Ac Tryz.func52 Tryz.ntmps52 rfl rfl rfl ?_
 repeat' (first|refine R1 ?_|(refine Q1 ?_;first|(apply Zav (t:=51);exact Tryz.underlying51;exact rfl;exact rfl)|(refine Q20 (.agg #[.pointer (some (adr (bx st) 0)),.iface 79 (.pointer (some (adr (bx k) 0))),.int .i64 0,.slice none 0 0]) (Vs _ _) ?_)|(refine Q15 Tryz.underlying49 (t:=49) ?_))|refine R2 ?_|fail)
 all_goals try (exfalso;omega)
 refine Q1 ?_;refine Q8 ?_;intro a1 w1 ha1 hA1 hx1 hs1
 replace hA1:Blk w1.heap a1 54 [.pointer (some (adr (bx st) 0)),.iface 79 (.pointer (some (adr (bx k) 0))),.int .i64 0,.slice none 0 0]:=hA1
 repeat' (first|refine R1 ?_|refine R2 ?_|fail)
 refine Kr Tryz.results52 ?_
 exact ⟨a1,rfl,by omega,⟨⟨none,0,Bk.new hA1 (by omega) (by unfold ixT;decide),Rw.nil (by unfold ixT;decide)⟩,fun a h=>(by cases h),List.nodup_nil,by simp⟩,hx1⟩
theorem Sd (hM:AL g w m st k clk ts):Ctr Tryz.prog 37 [.pointer (some (adr (bx m) 0)),.int .i64 0] w (fun v w'=>v=.int .i64 clk∧w=w'):=by
 obtain ⟨⟨pa,ca,h1,h2⟩,h3,h6,h7⟩:=hM
 have hb:=h1.blk
 refine Ac Tryz.func37 Tryz.ntmps37 rfl rfl rfl ?_
 repeat' (first|refine R1 ?_|(refine Q1 ?_;first|(refine Q2 (hu:=T.f54_2) ?_)|(refine Q3 (hu:=T.p3) ?_))|refine R2 ?_|fail)
 all_goals try (exfalso;omega)
 refine Kr Tryz.results37 ?_
 exact ⟨rfl,rfl⟩
theorem Sc {start:Int} {ro:Bool} (hM:AL g w m st k clk ts) (hl:ts.length≤9):Ctr Tryz.prog 218 [.pointer (some (adr (bx m) 0)),.int .i64 start,.bool ro] w (fun v w'=>∃t mp g',v=.tuple #[.pointer (some (adr (bx t) 0)),.int .i64 0]∧Stq ix [4] g g' w w'∧AL g' w' m st k clk (ts++[⟨t,start,clk,ro,mp⟩])∧BF g' w' mp none∧w.heap.size≤t∧w.heap.size≤mp):=by
 obtain ⟨⟨pa,ca,h1,h2⟩,h3,h6,h7⟩:=hM
 have hb:=h1.blk
 have hml:(ts.map TG.t).length=ts.length:=List.length_map _
 refine Ac Tryz.func218 Tryz.ntmps218 rfl rfl rfl ?_
 repeat' (first|refine R1 ?_|(refine Q1 ?_;first|(refine Q2 (hu:=by (first|exact T.f54_3|exact T.f54_2)) ?_)|(refine Q3 (hu:=by (first|exact T.p52|exact T.p3)) ?_)|(refine Q6 (hu:=T.s52) ?_))|refine R2 ?_|(apply Za;exact rfl;all_goals (intro h;try (exfalso;omega)))|fail)
 all_goals try (exfalso;omega)
 refine Q1 ?_
 refine Q115 Tryz.underlying109 rfl rfl ?_
 intro mp w1 hmp hM1 hx1 hz1
 replace hb:=hb.ext hx1
 repeat' (refine Q1 ?_;(refine Q20 (.agg #[.pointer (some (adr (bx m) 0)),.int .i64 start,.int .i64 clk,.bool ro,.map (some mp)]) (Vv _ _ _ _ _) ?_))
 refine Q1 ?_;refine Q8 ?_;intro t w2 ht hT hx2 hs2
 replace hT:Blk w2.heap t 111 [.pointer (some (adr (bx m) 0)),.int .i64 start,.int .i64 clk,.bool ro,.map (some mp)]:=hT
 have hx02:=hx1.trans hx2
 have hb2:=h1.blk.ext hx02
 repeat' (first|refine R1 ?_|(refine Q1 ?_;first|(refine Q2 (hu:=T.f54_3) ?_)|(refine Q3 (hu:=T.p52) ?_))|refine R2 ?_|fail)
 refine Q1 ?_
 refine Q12 ePt t T.s52 ?_
 intro p3 w3 hp3 hs3 _ hx3 hz3
 have hx03:=hx02.trans hx3
 obtain ⟨g3,hg3⟩:∃g3:Nat→Nat,g3=fun q=>if q<w.heap.size then g q else if q=mp then 7 else if q=t then 5 else 0:=⟨_,rfl⟩
 have hS3:Stq ix [4] g g3 w w3:=⟨hx03.os,hx03.tape,hx03.output,hx03.size,fun q hq _ _=>hx03.block q hq,fun q hq=>by rw [hg3];simp only [if_pos hq]⟩
 have hS3':Stq ix [] g g3 w w3:=⟨hx03.os,hx03.tape,hx03.output,hx03.size,fun q hq _ _=>hx03.block q hq,fun q hq=>by rw [hg3];simp only [if_pos hq]⟩
 have e7:g3 mp=7:=by rw [hg3];simp only;rw [if_neg (by omega)];simp
 have e5:g3 t=5:=by rw [hg3];simp only;rw [if_neg (by omega),if_neg (by omega)];simp
 have hB3:=h1.stp hS3' (by simp)
 have hR3:=h2.stp hS3' (by simp)
 repeat' (refine Q1 ?_;first|refine Q21 ?_|(refine Q16 T.s52 hR3.own hs3 (hB:=Nat.zero_le _) ?_;intro p4 c4 w4 ha4)|(refine Q2 (hu:=T.f54_3) ?_))
 have hd4:blk pa≠some m:=hR3.neB hB3 (by decide)
 have hB4:=hB3.turn ha4.grown hd4 4
 have hR4:=hR3.app ha4
 have hS4:Stq ix [4] g3 (rt g3 w3 4) w3 w4:=hR3.appS ha4 (by decide)
 have hb4:=hB4.blk
 refine Q1 ?_;refine Q5 T.z52 hb4 ?_;intro w5 hb5 hg5 hs5
 replace hb5:Blk w5.heap m 54 [.pointer (some (adr (bx st) 0)),.iface 79 (.pointer (some (adr (bx k) 0))),.int .i64 clk,.slice p4 (ts.map TG.t++[t]).length c4]:=hb5
 have hS5:=hB4.stpG (T:=[4]) (ix:=ix) hg5 4 (by decide)
 have hB5:=hB4.turned (u:=4) hb5
 have hR5:=hR4.turn hg5 (fun k hk e=>hR4.neB hB4 (by decide) (by rw [hk,e])) 4
 have hS45:=hS4.trans hS5
 repeat' (first|refine R1 ?_|refine R2 ?_|fail)
 refine Kr Tryz.results218 ?_
 have hmp3:BF g3 w3 mp none:=⟨hM1.ext (hx2.trans hx3),e7,fun x h=>(by cases h)⟩
 have ht3:Bk g3 w3 5 t 111 (tgC m ⟨t,start,clk,ro,mp⟩):=⟨hT.ext hx3,e5,by unfold ixT;decide⟩
 refine ⟨t,mp,_,rfl,hS3.trans hS45,⟨⟨p4,c4,by rw [List.map_append];exact hB5,by rw [List.map_append];exact hR5⟩,?_,?_,by simp;omega⟩,hmp3.stp hS45 (by decide),by omega,by omega⟩
 ·intro a ha
  rcases List.mem_append.1 ha with ha|ha
  ·exact ((h3 a ha).stp hS3' (by simp)).stp hS45 (by decide)
  ·simp at ha;subst ha;exact ht3.stp hS45 (by decide)
 ·rw [List.map_append,List.nodup_append]
  refine ⟨h6,by simp,fun x hx y hy e=>?_⟩
  simp at hy
  obtain ⟨a,ha,rfl⟩:=List.mem_map.1 hx
  have:=(h3 a ha).lt
  omega
theorem Ho {key:ByteArray} {vs:List Ver} {last mark:Nat} (hM:AL g w m st k clk ts) (hl:ts.length≤9) (hS:Cf g w st ix key vs last mark):Ctr Tryz.prog 154 [.pointer (some (adr (bx m) 0))] w (fun v w'=>∃t mp g',v=.tuple #[.pointer (some (adr (bx t) 0)),.int .i64 0]∧Stq ix [4] g g' w w'∧AL g' w' m st k clk (ts++[⟨t,(last:Int),clk,false,mp⟩])∧BF g' w' mp none∧w.heap.size≤t∧w.heap.size≤mp):=by
 have hM0:=hM
 obtain ⟨⟨pa,ca,h1,h2⟩,h3,h6,h7⟩:=hM
 obtain ⟨⟨F,hF,_⟩,_⟩:=hS
 have hb:=h1.blk
 refine Ac Tryz.func154 Tryz.ntmps154 rfl rfl rfl ?_
 repeat' (first|refine R1 ?_|(refine Q1 ?_;first|(refine Q4 (f:=15) (hc:=GJ hF) ?_;rintro _ _ ⟨rfl,rfl⟩;refine Kc ?_)|(refine Q4 (f:=218) (hc:=Sc (ix:=ix) hM0 hl) ?_;rintro _ w1 ⟨t,mp,g1,rfl,hS1,hM1,hp1,ht1,hm1⟩;refine Kc ?_)|(refine Q2 (hu:=T.f54_0) ?_)|(refine Q3 (hu:=T.p49) ?_))|refine R2 ?_|fail)
 refine Kr Tryz.results154 ?_
 exact ⟨t,mp,g1,rfl,hS1,hM1,hp1,ht1,hm1⟩
theorem VF {p:Option Addr} {c B i:Nat} {xs:List Nat} {w:World} (ho:Go.V.Own w B 108 ePt p c xs) (hi:i<xs.length) (hlen:xs.length≤1000000) :
  Ctr Tryz.prog 225 [.slice p xs.length c,.int .i64 (i:Int),.int .i64 ((i:Int)+1)] w (fun v w'=>v=.slice p (xs.take i++xs.drop (i+1)).length c∧Go.V.Own w' B 108 ePt p c (xs.take i++xs.drop (i+1))∧w.grownBy w' (blk p)):=by
 have hok:=ho.sl.ok
 have hcap:=hok.cap
 have hle:=hok.le
 simp only [maxLen] at hcap
 have hsz:ePt.sz=1:=rfl
 have hfl:=fun ys:List Nat=>Az ePt ys
 simp only [hsz] at hfl
 obtain ⟨gb,cur,rfl,hgb,hA,hcl,hcm,_,htk⟩:=ho.toBlk (ho.some_of_pos (by omega))
 simp only [hsz] at hcl htk
 have hlen1:(xs.take i++xs.drop (i+1)).length=xs.length - 1:=by simp;omega
 have hdl:((xs.drop (i+1)).flatMap ePt.enc).length=(xs.length - (i+1)) * 1:=by rw [hfl,List.length_drop]
 have htl:(xs.drop (i+1)).flatMap ePt.enc=(cur.drop ((i+1) * 1)).take ((xs.length - (i+1)) * 1):=by
  have e1:cur.take (xs.length * 1)=(xs.take (i+1)).flatMap ePt.enc++(xs.drop (i+1)).flatMap ePt.enc:=by rw [htk,← List.flatMap_append,List.take_append_drop]
  have e2:(cur.take (xs.length * 1)).drop ((i+1) * 1)=(xs.drop (i+1)).flatMap ePt.enc:=by rw [e1,List.drop_left' (by rw [hfl];simp;omega)]
  rw [← e2,List.drop_take];congr 1;omega
 refine Ac Tryz.func225 Tryz.ntmps225 rfl rfl rfl ?_
 repeat' (first|refine R1 ?_|(refine Q1 ?_;first|(refine Q64 T.s52 (q:=i) (r:=i+1) (mm:=xs.length) ?_)|(refine Q23 T.s52 (q:=i) (hj:=rfl) ?_)|(refine Q18 T.s52 hok (q:=i+1) (hj:=by omega) ?_)|(refine Q6 (hu:=T.s52) ?_))|refine R2 ?_|(apply Za;exact rfl;all_goals (intro h;try (exfalso;omega)))|refine Zf 1 [] [0,1,2,3,4,5,6,7] mixed (by decide +kernel) ?_|fail)
 all_goals try (exfalso;omega)
 refine Q1 ?_
 obtain ⟨oq,hoq⟩:∃oq,AP (bx gb) c (i+1) 1=some ⟨gb,oq,none⟩:=by
  unfold AP
  split
  ·exact ⟨0,rfl⟩
  ·exact ⟨(i+1) * 1,by simp [addr_add]⟩
 have hsd:Sl w.drew.heap ePt (AP (bx gb) c (i+1) 1) (c - (i+1)) (xs.drop (i+1)):=(ho.ext (Ext.drew Ext.rfl')).sl.drop (by omega)
 apply ZS (gb:=gb) (vs:=(xs.drop (i+1)).flatMap ePt.enc);exact T.s52;exact rfl;exact rfl;exact rfl;exact hoq;exact hA.ext (Ext.drew Ext.rfl');exact hcl
 ·exact hdl
 ·exact fun j v hj=>hsd.flat j v hj
 ·exact Cg _ _
 ·omega
 ·exact rfl
 ·exact rfl
 ·exact rfl
 intro w2 hA2 hg2 hz2
 replace hg2:w.grownBy w2 (some gb):=Ev (Ext.drew Ext.rfl') hg2
 have hlx:i+(xs.length - (i+1))=xs.length - 1:=by omega
 rw [hlx]
 have hc2:(cur.take (i * 1)++(xs.drop (i+1)).flatMap ePt.enc++cur.drop (i * 1+((xs.drop (i+1)).flatMap ePt.enc).length)).length=c * 1:=by
  simp only [List.length_append,List.length_take,List.length_drop,hdl,hcl];omega
 have htk2:(cur.take (i * 1)++(xs.drop (i+1)).flatMap ePt.enc++cur.drop (i * 1+((xs.drop (i+1)).flatMap ePt.enc).length)).take ((xs.length - 1) * 1)=(xs.take i++xs.drop (i+1)).flatMap ePt.enc:=by
  rw [List.take_left' (by simp only [List.length_append,List.length_take,hdl,hcl];omega),List.flatMap_append,← Dc ePt xs i (by omega),← htk,List.take_take,hsz]
  congr 2;omega
 generalize cur.take (i * 1)++(xs.drop (i+1)).flatMap ePt.enc++cur.drop (i * 1+((xs.drop (i+1)).flatMap ePt.enc).length)=cur2 at hA2 hc2 htk2
 repeat' (first|refine R1 ?_|(refine Q1 ?_;first|(refine Q29 T.s52 (q:=xs.length - 1) (r:=xs.length) ?_)|(refine Q6 (hu:=T.s52) ?_))|fail)
 all_goals try (exfalso;omega)
 refine Q1 ?_
 apply ZT (gb:=gb) (o:=(xs.length - 1) * 1) (cur:=cur2) (T:=108);exact T.s52;exact rfl
 ·exact fun _=>Bc (by omega)
 ·exact hA2
 ·rw [hc2];omega
 ·exact T.zero108
 ·decide
 ·exact rfl
 ·decide
 ·exact rfl
 ·exact rfl
 ·exact rfl
 intro w3 vs hvs hA3 hg3 hz3
 repeat' (first|refine R1 ?_|refine R2 ?_|fail)
 refine Kr Tryz.results225 ?_
 refine ⟨by rw [hlen1];rfl,Own.ofBlk hgb hA3 ?_ hcm (by rw [hlen1];omega) ?_,?_⟩
 ·simp only [List.length_append,List.length_take,List.length_drop,hvs,hc2,hsz];omega
 ·rw [hlen1,hsz,List.append_assoc,List.take_append_of_le_length (by simp only [List.length_take,hc2];omega),List.take_take,Nat.min_self]
  exact htk2
 ·exact CG (p:=bx gb) (p':=bx gb) hg2 (by unfold BK;exact .inl rfl) hg3
theorem Blk.raw {H:Array Obj} {b t:Nat} {cs:List Value} (h:Blk H b t cs):∃ca ta,H[(adr (bx b) 0).block]?=some (.cells ca ta (0,0)):=by
 unfold Blk at h;exact ⟨_,_,h⟩
theorem VP:∃j,Tryz.prog.info? 111=some j∧j.size≠0:=by
 have h:=T.z111
 unfold Ad at h
 obtain ⟨j,h1,h2⟩:=h
 exact ⟨j,h1,by omega⟩
theorem QD {pa:Option Addr} {ca i:Nat} {a:TG} (hS:Sl w.heap ePt pa ca (ts.map TG.t)) (hact:∀a∈ts,∃cs,Blk w.heap a.t 111 cs) (hnd:(ts.map TG.t).Nodup) (hi:ts[i]?=some a) :
  Ctr Tryz.prog 224 [.slice pa (ts.map TG.t).length ca,.pointer (some (adr (bx a.t) 0))] w (fun v w'=>v=.int .i64 (i:Int)∧w=w'):=by
 have hml:(ts.map TG.t).length=ts.length:=List.length_map _
 have hlt:=AR hi
 have hbd:=hS.bound
 obtain ⟨csa,hba⟩:=hact a (List.mem_of_getElem? hi)
 obtain ⟨j,hj1,hj2⟩:=VP
 refine Ac Tryz.func224 Tryz.ntmps224 rfl rfl rfl ?_
 repeat' (first|refine R1 ?_|(refine Q1 ?_;(refine Q6 (hu:=T.s52) ?_))|refine R2 ?_|fail)
 refine Zh (ι:=Nat) (fun k=>[(0,.slice pa (ts.map TG.t).length ca),(1,.pointer (some (adr (bx a.t) 0))),(7,.int .i64 ((ts.map TG.t).length:Int)),(8,.int .i64 (k:Int))]) (fun k w'=>w=w'∧k≤i) (fun k=>i+1 - k) 0 ⟨rfl,rfl,rfl,rfl,trivial⟩ ⟨rfl,Nat.zero_le _⟩ ?_
 rintro k _ ⟨rfl,hk⟩
 obtain ⟨b,hb⟩:=Aj (xs:=ts) (k:=k) (by omega)
 obtain ⟨csb,hbb⟩:=hact b (List.mem_of_getElem? hb)
 have hra:=Blk.raw hba
 have hrb:=Blk.raw hbb
 have hbm:(ts.map TG.t)[k]?=some b.t:=by rw [List.getElem?_map,hb];rfl
 repeat' (first|refine R1 ?_|(refine Q1 ?_;first|(refine Q9 (q:=k) (e:=ePt) (hu:=T.p108) (hs:=hS) (hq:=hbm) ?_)|(refine Q120 rfl rfl Tryz.underlying108 hj1 hj2 hra hrb rfl (p:=adr (bx a.t) 0) (q:=adr (bx b.t) 0) ?_)|refine Q13 T.s52 ?_)|refine R2 ?_|(apply Za;exact rfl;all_goals (intro h;try (exfalso;omega)))|fail)
 ·refine Kr Tryz.results224 ?_
  have e:a.t=b.t:=by simpa [adr,bx] using h
  have:k=i:=by
   have h1:(ts.map TG.t)[k]?=(ts.map TG.t)[i]?:=by rw [hbm,List.getElem?_map,hi,← e];rfl
   exact (List.getElem?_inj (by omega) hnd).1 h1
  exact ⟨by rw [this];rfl,rfl⟩
 ·have hne:k≠i:=fun e=>by
   subst e
   rw [hi] at hb
   injection hb with hb
   subst hb
   exact h rfl
  exact Zc (k+1) ⟨rfl,rfl,rfl,rfl,trivial⟩ ⟨rfl,by omega⟩ (by omega)
theorem QI {i:Nat} {a:TG} (hM:AL g w m st k clk ts) (hi:ts[i]?=some a):Ctr Tryz.prog 158 [.pointer (some (adr (bx m) 0)),.pointer (some (adr (bx a.t) 0))] w (fun v w'=>v=.bool true∧∃g',Stq ix [4] g g' w w'∧AL g' w' m st k clk (ts.take i++ts.drop (i+1))):=by
 obtain ⟨⟨pa,ca,h1,h2⟩,h3,h6,h7⟩:=hM
 have hb:=h1.blk
 have hml:(ts.map TG.t).length=ts.length:=List.length_map _
 have hlt:=AR hi
 refine Ac Tryz.func158 Tryz.ntmps158 rfl rfl rfl ?_
 repeat' (first|refine R1 ?_|(refine Q1 ?_;first|(refine Q4 (f:=224) (hc:=QD h2.sl (fun a ha=>⟨_,(h3 a ha).blk⟩) h6 hi) ?_;rintro _ _ ⟨rfl,rfl⟩;refine Kc ?_)|(refine Q15 Tryz.underlying108 (t:=108) ?_)|(refine Q2 (hu:=T.f54_3) ?_)|(refine Q3 (hu:=T.p52) ?_))|refine R2 ?_|fail)
 all_goals try (exfalso;omega)
 refine Q1 ?_;refine Q4 (hc:=VF h2.own (by omega) (by omega)) ?_;rintro _ w1 ⟨rfl,hO1,hg1⟩;refine Kc ?_
 have hB1:=h1.turn hg1 (fun e=>h2.neB h1 (by decide) e) 4
 have hR1:=h2.turned (u:=4) hO1
 have hS1:Stq ix [4] g (rt g w 4) w w1:=h2.stpG hg1 4 (by decide)
 have hb1:=hB1.blk
 repeat' (refine Q1 ?_;first|refine Q21 ?_|(refine Q2 (hu:=T.f54_3) ?_))
 refine Q1 ?_;refine Q5 T.z52 hb1 ?_;intro w2 hb2 hg2 hs2
 replace hb2:Blk w2.heap m 54 [.pointer (some (adr (bx st) 0)),.iface 79 (.pointer (some (adr (bx k) 0))),.int .i64 clk,.slice pa ((ts.map TG.t).take i++(ts.map TG.t).drop (i+1)).length ca]:=hb2
 have hS2:=hB1.stpG (T:=[4]) (ix:=ix) hg2 4 (by decide)
 have hB2:=hB1.turned (u:=4) hb2
 have hR2:=hR1.turn hg2 (fun k hk e=>hR1.neB hB1 (by decide) (by rw [hk,e])) 4
 repeat' (first|refine R1 ?_|refine R2 ?_|fail)
 refine Kr Tryz.results158 ?_
 have hS:=hS1.trans hS2
 have em:(ts.take i++ts.drop (i+1)).map TG.t=(ts.map TG.t).take i++(ts.map TG.t).drop (i+1):=by simp
 have hsub:∀b,b∈ts.take i++ts.drop (i+1)→b∈ts:=fun b hb=>(List.mem_append.1 hb).elim List.mem_of_mem_take List.mem_of_mem_drop
 refine ⟨rfl,_,hS,⟨⟨pa,ca,by rw [em];exact hB2,by rw [em];exact hR2⟩,fun b hb=>(h3 b (hsub b hb)).stp hS (by decide),?_,by simp;omega⟩⟩
 rw [em]
 refine h6.sublist ?_
 have h9:=List.Sublist.append (List.Sublist.refl ((ts.map TG.t).take i)) (List.drop_sublist_drop_left (ts.map TG.t) (Nat.le_succ i))
 rwa [List.take_append_drop] at h9
variable {g' : Nat → Nat} {w1 w2 : World} {T : List Nat}
theorem Stq.own {b:Nat} (h:Stq ix T g g' w w1) (hg:w1.grownBy w2 (some b)) (hb:w.heap.size≤b) (u:Nat):Stq ix T g (rt g' w1 u) w w2 :=
 ⟨hg.os.trans h.os,hg.tape.trans h.tape,hg.output.trans h.output,Nat.le_trans h.size hg.size,fun k hk a b'=>(hg.block k (Nat.lt_of_lt_of_le hk h.size) (fun e=>by injection e;omega)).trans (h.block k hk a b'),
  fun k hk=>(AY (Nat.lt_of_lt_of_le hk h.size)).trans (h.tags k hk)⟩
theorem Sb (k : Nat) (w : World) : (Go.method (Tryz.prog.types.size + Made.depth) 79 (.pointer (some (adr (bx k) 0))) "Save").run Tryz.prog w = .ok (599, .pointer (some (adr (bx k) 0))) w := by kernel_rfl
theorem TQ {cap:Array Value} (hc:cap.size=1) {w:World}:JA Tryz.prog 448 cap w :=
 JM Tryz.func448 (by decide) rfl rfl (fun w=>by kernel_rfl) (fun w=>by kernel_rfl) (by rw [hc];decide) (by rw [hc];decide)
theorem Tf {x y:Wt} (h:Nj x y) (hx:TxW x):Cu y=Cu x:=by
 unfold Go.Proofs.YtkcolpfanmdmiaaGreatDoor.Cu
 rw [h.key,h.text,h.ok.gone,hx.gone]
variable {a : TG}
theorem NR (hM:AL g w m st k clk ts) (hi:ts[i]?=some a) (hp:BF g w a.mp none):Ctr Tryz.prog 220 [.pointer (some (adr (bx m) 0)),.pointer (some (adr (bx a.t) 0))] w (fun v w'=>v=.tuple #[.int .i64 0,.int .i64 0]∧∃g',Stq ix [4] g g' w w'∧AL g' w' m st k clk (ts.take i++ts.drop (i+1))):=by
 have ha:=hM.act a (List.mem_of_getElem? hi)
 refine Ac Tryz.func220 Tryz.ntmps220 rfl rfl rfl ?_
 repeat' (refine R1 ?_)
 refine Q1 ?_;refine Q4 (hc:=QI (ix:=ix) hM hi) ?_;rintro _ w1 ⟨rfl,g1,hS1,hM1⟩;refine Kc ?_
 have hp1:=hp.stp hS1 (by decide)
 have ha1:=ha.stp hS1 (by decide)
 have hmap:=hp1.map
 have hab:Blk w1.heap a.t 111 [.pointer (some (adr (bx m) 0)),.int .i64 a.start,.int .i64 a.clk,.bool a.ro,.map (some a.mp)]:=ha1.blk
 repeat' (first|refine R1 ?_|(refine Q1 ?_;first|(refine Q79 Tryz.underlying109 hmap (t:=109) ?_)|(refine Q2 (hu:=T.f111_4) ?_)|(refine Q3 (hu:=T.p109) ?_))|refine R2 ?_|fail)
 all_goals try (exfalso;simp [IM] at *;done)
 refine Kr Tryz.results220 ?_
 exact ⟨rfl,g1,hS1,hM1⟩
theorem WG {y1 y2 y3:Value} (hT:Gg w t m start c0 ro mp none) (hm:Blk w.heap m 54 [.pointer (some (adr (bx st) 0)),y1,y2,y3]) (hF:StR w st ix F key vs last mark) (hks:key.size≤4096) :
  Ctr Tryz.prog 607 [.pointer (some (adr (bx t) 0)),.string key] w (fun x w'=>∃r ok,x=.tuple #[.agg (AO.enc r).toArray,.bool ok]∧Ext w w'∧(ok=false→r=EX∧∀v,¬Gd vs start c0 v)∧(ok=true→∃v,Gd vs start c0 v∧Bv w'.heap r v)):=by
 have hb:=hT.box
 have hM:=hT.map
 refine Ac Tryz.func607 Tryz.ntmps607 rfl rfl rfl ?_
 repeat' (refine R1 ?_)
 refine Q1 ?_;refine Q7 T.zero171 ?_;intro a4 w1 ha4 hA4 hx1 hs1
 have hb1:=hb.ext hx1
 have hM1:=hM.ext hx1
 repeat' (first|refine R1 ?_|(refine Q1 ?_;first|(refine Q111 Tryz.underlying109 EC T.zero171 rfl rfl (Ui hks) hM1 rfl (t:=109) ?_)|(refine Q2 (hu:=T.f111_4) ?_)|(refine Q3 (hu:=T.p109) ?_))|refine R2 ?_|fail)
 refine Q1 ?_;refine Q7 T.zero171 ?_;intro a6 w2 ha6 hA6 hx2 hs2
 skip
 refine Q1 ?_;refine Q5 T.z171 hA6 ?_;intro w3 hA6 hg3 hs3
 have hx13:Ext w1 w3:=hx2.own hg3 (fun k hk=>by injection hk;omega)
 have hx03:=hx1.trans hx13
 have hx3d:Ext w w3.drew:=Ext.drew hx03
 repeat' (first|refine R1 ?_|refine R2 ?_|fail)
 refine Zl 2 [] (.node [0,1,2,7,8,9,10,11,12,13,14,15] (.alt 3 (.leaf [4,5,6,16,17,18,19,20]) .stop)) mixed (by decide +kernel) ?_
 have hbd:=hb.ext hx3d
 have hmd:=hm.ext hx3d
 have hFd:=hF.ext hx3d
 repeat' (first|refine R1 ?_|(refine Q1 ?_;first|(refine Q4 (f:=72) (hc:=WA hFd) ?_;rintro _ w4 ⟨r,ok,rfl,hx4,hr0,hr1⟩;refine Kc ?_)|(refine Q2 (hu:=by (first|exact T.f111_0|exact T.f54_0|exact T.f111_1|exact T.f111_2)) ?_)|(refine Q3 (hu:=by (first|exact T.p46|exact T.p49|exact T.p3)) ?_))|(refine Zj ?_)|(refine Zp ?_)|(apply Zv)|refine R2 ?_|(exact Zq)|fail)
 all_goals
  have hx04:=hx3d.trans hx4
  have hA44:=(hA4.ext hx13).ext ((Ext.drew Ext.rfl').trans hx4)
  refine Q1 ?_;refine Q5 T.z171 hA44 ?_;intro w5 hA5 hg5 hs5
  replace hA5:Blk w5.heap a4 171 (AO.enc r):=hA5
  repeat' (first|refine R1 ?_|refine R2 ?_|fail)
  refine Ze Tryz.results607 ⟨_,_,_,rfl,rfl,Ae T.a171 (by assumption) rfl,_,_,rfl,rfl,rfl⟩ ?_
  exact ⟨r,ok,rfl,hx04.own hg5 (fun k hk=>by injection hk;omega),hr0,fun e=>by
   obtain ⟨v,h1,h2⟩:=hr1 e
   have hv:v∈vs:=by obtain ⟨n,_,_,h3,_⟩:=h1;exact List.mem_of_getElem? h3
   exact ⟨v,h1,h2.tx (hF.good.all v hv)⟩⟩
theorem Sa {w:World} (hk:key.size≤256):Ctr Tryz.prog 612 [.string key] w (fun v w'=>v=.bool false∧Ext w w'):=by
 refine Ac Tryz.func612 Tryz.ntmps612 rfl rfl rfl ?_
 repeat' (first|refine R1 ?_|(refine Q1 ?_;refine Q17 T.str9 ?_)|refine R2 ?_|fail)
 refine Kr Tryz.results612 ?_
 exact ⟨by simp [Cj];omega,Kz⟩
theorem RU {q:Option Addr} {d:Nat} {w:World} (hk:key.size≤256) (hS:Sl w.heap Ar q d [key]):Ctr Tryz.prog 340 [.slice q 1 d,.func (.func 612) #[] #[]] w (fun v w'=>v=.int .i64 (-1)∧Ext w w'):=by
 refine Ac Tryz.func340 Tryz.ntmps340 rfl rfl rfl ?_
 repeat' (first|refine R1 ?_|(refine Q1 ?_;(refine Q6 (hu:=T.s61) ?_))|refine R2 ?_|fail)
 refine Zm ?_
 repeat' (first|refine R1 ?_|(refine Q1 ?_;first|(refine Q9 (q:=0) (e:=Ar) (hu:=T.p9) (hs:=hS) (hq:=(show [key][0]?=some key from rfl)) ?_)|refine Q25 T.s61 ?_)|refine R2 ?_|fail)
 refine Q1 ?_;refine Q22 (hc:=Sa hk) ?_;rintro _ w2 ⟨rfl,hx2⟩;refine Kc ?_
 repeat' (first|refine R1 ?_|refine R2 ?_|fail)
 refine Zg ?_
 repeat' (first|refine R1 ?_|refine R2 ?_|fail)
 all_goals try (exfalso;omega)
 refine Kr Tryz.results340 ?_
 exact ⟨rfl,hx2⟩
theorem Uj {q:Option Addr} {d:Nat} {w:World} (hk:key.size≤256) (hS:Sl w.heap Ar q d [key]):Ctr Tryz.prog 234 [.slice q 1 d,.func (.func 612) #[] #[]] w (fun v w'=>v=.bool false∧Ext w w'):=by
 refine Ac Tryz.func234 Tryz.ntmps234 rfl rfl rfl ?_
 repeat' (first|refine R1 ?_|(refine Q1 ?_;(refine Q4 (f:=340) (hc:=RU hk hS) ?_;rintro _ w2 ⟨rfl,hx2⟩;refine Kc ?_))|refine R2 ?_|fail)
 refine Kr Tryz.results234 ?_
 exact ⟨rfl,hx2⟩
theorem TJ {pa:Option Addr} {ca:Nat} (hS:Sl w.heap ePt pa ca (ts.map TG.t)) (hact:∀a∈ts,∃cs,Blk w.heap a.t 111 cs) (hnd:(ts.map TG.t).Nodup) (hi:ts[i]?=some a) :
  Ctr Tryz.prog 613 [.slice pa (ts.map TG.t).length ca,.pointer (some (adr (bx a.t) 0))] w (fun v w'=>v=.bool true∧w=w'):=by
 refine Ac Tryz.func613 Tryz.ntmps613 rfl rfl rfl ?_
 repeat' (first|refine R1 ?_|(refine Q1 ?_;(refine Q4 (f:=224) (hc:=QD hS hact hnd hi) ?_;rintro _ _ ⟨rfl,rfl⟩;refine Kc ?_))|refine R2 ?_|fail)
 refine Kr Tryz.results613 ?_
 exact ⟨by simp [Cj],rfl⟩
theorem WH {q:Option Addr} {d:Nat} (hM:AL g w m st k clk ts) (hi:ts[i]?=some a) (hro:a.ro=false) (hk:key.size≤256) (hS:Sl w.heap Ar q d [key]):Ctr Tryz.prog 610 [.pointer (some (adr (bx a.t) 0)),.slice q 1 d] w (fun v w'=>v=.int .i64 0∧Ext w w'):=by
 obtain ⟨⟨pa,ca,h1,h2⟩,h3,h6,h7⟩:=hM
 have hb:Blk w.heap a.t 111 [.pointer (some (adr (bx m) 0)),.int .i64 a.start,.int .i64 a.clk,.bool a.ro,.map (some a.mp)]:=(h3 a (List.mem_of_getElem? hi)).blk
 rw [hro] at hb
 have hmb:=h1.blk
 refine Ac Tryz.func610 Tryz.ntmps610 rfl rfl rfl ?_
 repeat' (first|refine R1 ?_|(refine Q1 ?_;first|(refine Q15 Tryz.underlying46 (t:=46) ?_)|(refine Q4 (f:=613) (hc:=TJ h2.sl (fun a ha=>⟨_,(h3 a ha).blk⟩) h6 hi) ?_;rintro _ _ ⟨rfl,rfl⟩;refine Kc ?_)|(refine Q4 (f:=234) (hc:=Uj hk hS) ?_;rintro _ w2 ⟨rfl,hx2⟩;refine Kc ?_)|(refine Q2 (hu:=by (first|exact T.f111_3|exact T.f111_0|exact T.f54_3)) ?_)|(refine Q3 (hu:=by (first|exact T.p4|exact T.p46|exact T.p52)) ?_))|refine R2 ?_|fail)
 refine Kr Tryz.results610 ?_
 exact ⟨rfl,hx2⟩
theorem Vx (e:Int) (r:CO) (w:World):(Instr.build 171 [(2,Value.int .i64 e),(3,Value.agg (Dl.enc r).toArray)].toArray).run Tryz.prog w=.ok (.agg (AO.enc ⟨0,false,e,r⟩).toArray) w:=by kernel_rfl
theorem WI {rv:CO} {e:Int} (hM:AL g w m st k clk ts) (hi:ts[i]?=some a) (hro:a.ro=false) (hk:key.size≤256) (hp:BF g w a.mp none) (hT:Dk rv) (he0:0≤e) (he1:e≤1099511627776) :
  Ctr Tryz.prog 609 [.pointer (some (adr (bx a.t) 0)),.string key,.agg (Dl.enc rv).toArray,.int .i64 e] w (fun v w'=>v=.int .i64 0∧∃g' x,Stq ix [7] g g' w w'∧BF g' w' a.mp (some x)∧x.key=key∧x.exp=e∧x.val.text=rv.text):=by
 have hb:Blk w.heap a.t 111 [.pointer (some (adr (bx m) 0)),.int .i64 a.start,.int .i64 a.clk,.bool a.ro,.map (some a.mp)]:=(hM.act a (List.mem_of_getElem? hi)).blk
 refine Ac Tryz.func609 Tryz.ntmps609 rfl rfl rfl ?_
 repeat' (refine R1 ?_)
 refine Q1 ?_;refine Q8 ?_;intro a6 w1 ha6 hA6 hx1 hs1
 replace hA6:Blk w1.heap a6 169 (Dl.enc rv):=hA6
 repeat' (refine R1 ?_)
 refine Q1 ?_
 refine Q12 Ar key T.s61 ?_
 intro p2 w2 hp2 hs2 _ hx2 hz2
 have hx02:=hx1.trans hx2
 have hA2:=hA6.ext hx2
 have hrv:∀H,Rv H rv ⟨1,rv.text,[],[],[]⟩:=fun H=>hT.rv H
 have hright:GR ⟨1,rv.text,[],[],[]⟩:=MX.2 ⟨hT.size,rfl,rfl,rfl⟩
 repeat' (first|refine R1 ?_|(refine Q1 ?_;first|(refine Q4 (f:=610) (hc:=WH (hM.ext hx02 0) hi hro hk hs2) ?_;rintro _ w3 ⟨rfl,hx3⟩;refine Kc ?_;replace hA2:=hA2.ext (Kx hx3))|(refine Q11 T.a169 (hb:=hA2) ?_)|(refine Q4 (f:=109) (hc:=EL (hrv _) (LC hT.size) rfl (by simp)) ?_;rintro _ w4 ⟨b,rfl,hbr,hx4⟩;refine Kc ?_;replace hA2:=hA2.ext (Kx hx4)))|refine R2 ?_|(apply Za;exact rfl;all_goals (intro h;try (exfalso;omega)))|((fail_if_success (refine Q1 ?_));apply Zb;exact rfl;exact rfl;all_goals (intro h;try (exfalso;omega)))|((fail_if_success (refine Q1 ?_));apply ZW;exact rfl;exact rfl;all_goals intro h)|fail)
 ·exfalso
  have:=hbr.2 hright
  simp_all
 ·refine Zl 2 [] (.node [0,1,2,4,5,6] (.alt 3 (.leaf [7,8,9]) (.alt 7 (.leaf [3,8,9]) .stop))) mixed (by decide +kernel) ?_
  have hx04:Ext w w4.drew:=Ext.drew ((hx02.trans hx3).trans hx4)
  have hd:Ext w4 w4.drew:=Ext.drew Ext.rfl'
  have hbd:=hb.ext hx04
  have hAd:=hA2.ext hd
  repeat' (first|refine R1 ?_|(refine Q1 ?_;first|(refine Q11 T.a169 (hb:=hAd) ?_)|(refine Q4 (f:=162) (hc:=Es (hrv _) (by simp) (by simp) (by simp)) ?_;rintro _ w5 ⟨r5,rfl,hr5,_,_,hx5⟩;refine Kc ?_;replace hbd:=hbd.ext (Kx hx5))|(refine Q20 (.agg (AO.enc ⟨0,false,e,r5⟩).toArray) (Vx _ _) (t:=171) ?_)|(refine Q2 (hu:=T.f111_4) ?_)|(refine Q3 (hu:=T.p109) ?_))|(refine Zj ?_)|(refine Zp ?_)|(apply Zv)|refine R2 ?_|(exact Zq)|fail)
  all_goals
   have hx05:Ext w w5:=hx04.trans hx5
   have hp5:=hp.ext hx05 0
   have hk5:keyOf Tryz.prog 9 (.string key)=some (Cm key):=Ui (by omega)
   have hmap5:Cy Tryz.prog w5 9 a.mp none:=hp5.map
   refine Q1 ?_
   refine Q122 Tryz.underlying109 EC rfl rfl rfl hk5 hmap5 rfl rfl rfl (s:=key) ?_
   intro w6 hM6 hg6
   repeat' (first|refine R1 ?_|refine R2 ?_|fail)
   refine Kr Tryz.results609 ?_
   obtain ⟨hT5,ht5⟩:=Dk.of_rv hr5 hT.size
   have hS5:Stq ix [7] g (rt g w 0) w w5:=Stq.of_ext hx05 0
   obtain ⟨es5,cl5,ho5⟩:=hmap5.obj
   have hS6:Stq ix [7] (rt g w 0) (rt (rt g w 0) w5 0) w5 w6:=Stq.of_grown hg6 0 (Gx ho5 rfl) (by rw [hp5.tag];simp)
   refine ⟨rfl,_,⟨key,0,false,e,r5⟩,hS5.trans hS6,⟨hM6,by rw [AY hmap5.lt];exact hp5.tag,fun x hx=>?_⟩,rfl,rfl,ht5⟩
   injection hx with hx
   subst hx
   exact ⟨hk,rfl,hT5,he0,he1⟩
theorem T.p344:PlainT Tryz.prog 344:=PlainT.of Tryz.underlying344 rfl
structure RdB (w:World) (t m st ix mp:Nat) (start c0:Int) (F:Nat→Prop) (key:ByteArray) (vs:List Ver) (last mark:Nat):Prop where
 txn:∃ro,Gg w t m start c0 ro mp none
 mgr:∃y1 y2 y3,Blk w.heap m 54 [.pointer (some (adr (bx st) 0)),y1,y2,y3]
 str:StR w st ix F key vs last mark
 ks:key.size≤256
theorem RdB.ext {w w':World} {t m st ix mp:Nat} {start c0:Int} {F:Nat→Prop} {key:ByteArray} {vs:List Ver} {last mark:Nat} (h:RdB w t m st ix mp start c0 F key vs last mark) (hx:Ext w w'):RdB w' t m st ix mp start c0 F key vs last mark:=by
 obtain ⟨y1,y2,y3,h1⟩:=h.mgr
 exact ⟨h.txn.imp fun _ h=>h.ext hx,⟨y1,y2,y3,h1.ext hx⟩,h.str.ext hx,h.ks⟩
def Dv (vs:List Ver) (s c0:Int) (r:Aw) (ok:Bool):Prop:=(ok=false→r=EX∧∀v,¬Gd vs s c0 v)∧(ok=true→∃v,Gd vs s c0 v∧∀H,Bv H r v)
theorem TB (t:Nat) (w:World):(Instr.build 346 [(0,Value.iface 108 (.pointer (some (adr (bx t) 0))))].toArray).run Tryz.prog w=.ok (.agg #[.iface 108 (.pointer (some (adr (bx t) 0)))]) w:=by kernel_rfl
theorem Gv (k : Nat) (w : World) : (Go.method (Tryz.prog.types.size + Made.depth) 108 (.pointer (some (adr (bx k) 0))) "Get").run Tryz.prog w = .ok (607, .pointer (some (adr (bx k) 0))) w := by kernel_rfl
theorem TP {cap:Array Value} (hc:cap.size=2) {w:World}:JA Tryz.prog 388 cap w :=
 JM Tryz.func388 (by decide) rfl rfl (fun w=>by kernel_rfl) (fun w=>by kernel_rfl) (by rw [hc];decide) (by rw [hc];decide)
theorem MS (hR:RdB w t m st ix mp start c0 F key vs last mark):Ctr Tryz.prog 607 [.pointer (some (adr (bx t) 0)),.string key] w (fun x w'=>∃r ok,x=.tuple #[.agg (AO.enc r).toArray,.bool ok]∧Ext w w'∧Dv vs start c0 r ok):=by
 obtain ⟨y1,y2,y3,h1⟩:=hR.mgr
 refine (WG hR.txn.choose_spec h1 hR.str (by have:=hR.ks;omega)).mono fun x w' ⟨r,ok,hx,hE,h2,h3⟩=>⟨r,ok,hx,hE,h2,fun e=>?_⟩
 obtain ⟨v,h4,h5⟩:=h3 e
 have hv:v∈vs:=by obtain ⟨n,_,_,h3,_⟩:=h4;exact List.mem_of_getElem? h3
 exact ⟨v,h4,fun H=>h5.tx (hR.str.good.all v hv)⟩
theorem OJ:Ctr Tryz.prog 151 [.iface 108 (.pointer (some (adr (bx t) 0)))] w (fun v w'=>∃vw,v=.tuple #[.pointer (some (adr (bx vw) 0)),.int .i64 0]∧w.heap.size≤vw∧Blk w'.heap vw 346 [.iface 108 (.pointer (some (adr (bx t) 0)))]∧Ext w w'):=by
 refine Ac Tryz.func151 Tryz.ntmps151 rfl rfl rfl ?_
 repeat' (first|refine R1 ?_|(refine Q1 ?_;first|(apply Zav (t:=344);exact Tryz.underlying344;exact rfl;exact rfl)|(refine Q20 (.agg #[.iface 108 (.pointer (some (adr (bx t) 0)))]) (TB _) ?_))|refine R2 ?_|fail)
 refine Q1 ?_;refine Q8 ?_;intro a1 w1 ha1 hA1 hx1 hs1
 replace hA1:Blk w1.heap a1 346 [.iface 108 (.pointer (some (adr (bx t) 0)))]:=hA1
 repeat' (first|refine R1 ?_|refine R2 ?_|fail)
 refine Kr Tryz.results151 ?_
 exact ⟨a1,rfl,by omega,hA1,hx1⟩
theorem WK (hR:RdB w t m st ix mp start c0 F key vs last mark) (hV:Blk w.heap vw 346 [.iface 108 (.pointer (some (adr (bx t) 0)))]):Ctr Tryz.prog 275 [.pointer (some (adr (bx vw) 0)),.string key,.int .i64 1] w (fun x w'=>∃r ok,x=.tuple #[.agg (AO.enc r).toArray,.int .i64 0]∧Ext w w'∧Dv vs start c0 r ok):=by
 refine Ez Tryz.func275 Tryz.ntmps275 rfl rfl rfl ?_
 repeat' (refine R1 ?_)
 refine Q1 ?_;refine Q7 T.zero171 ?_;intro a6 w1 ha6 hA6 hx1 hs1
 skip
 refine Q1 ?_;refine Q7 T.zero58 ?_;intro a7 w2 ha7 hA7 hx2 hs2
 have hx02:=hx1.trans hx2
 have hV2:=hV.ext hx02
 repeat' (first|refine R1 ?_|(refine Q1 ?_;first|refine Q40 ?_|(refine Q3 (hu:=T.p344) (hb:=hV2) ?_)|(refine Q2 (hu:=T.f346_0) ?_))|refine R2 ?_|fail)
 refine Q1 ?_
 refine Q38 (Gv _ _) (MS (hR.ext hx02)) ?_
 rintro _ w3 ⟨r,ok,rfl,hx3,hSn⟩
 refine ⟨.inr hx3,?_⟩
 repeat' (refine Q1 ?_;first|refine Q19 ?_|refine Q33 ?_)
 refine Q1 ?_;refine Q7 T.zero171 ?_;intro a8 w4 ha8 hA8 hx4 hs4
 skip
 refine Q1 ?_;refine Q5 T.z171 hA8 ?_;intro w5 hA8 hg5 hs5
 replace hA8:Blk w5.heap a8 171 (AO.enc r):=hA8
 have hx35:Ext w3 w5:=hx4.own hg5 (fun k hk=>by injection hk;omega)
 have hx25:=hx3.trans hx35
 have z3:=hx3.size
 replace hA6:=(hA6.ext hx2).ext hx25
 replace hA7:=hA7.ext hx25
 cases ok with
 | false =>
  repeat' (first|refine R1 ?_|(refine Q1 ?_;(refine Q20 (.agg (AO.enc EX).toArray) Gi ?_))|refine R2 ?_|fail)
  refine Q1 ?_;refine Q5 T.z171 hA6 ?_;intro w6 hA6 hg6 hs6
  replace hA6:Blk w6.heap a6 171 (AO.enc EX):=hA6
  have hA7':=hA7.grown hg6 (fun e=>by injection e;omega)
  skip
  refine Q1 ?_;refine Q5 T.z58 hA7' ?_;intro w7 hA7 hg7 hs7
  replace hA7:Blk w7.heap a7 58 [.int .i64 0]:=hA7
  have hA6':=hA6.grown hg7 (fun e=>by injection e;omega)
  have hx07:Ext w w7:=((hx02.trans hx25).own hg6 (fun k hk=>by injection hk;omega)).own hg7 (fun k hk=>by injection hk;omega)
  repeat' (first|refine R1 ?_|refine R2 ?_|fail)
  refine ZE Tryz.results275 rfl (TP rfl) (fun w8 hx8=>?_)
  exact ⟨_,⟨_,_,_,rfl,rfl,Ae T.a171 (hA6'.ext hx8) rfl,_,_,_,rfl,rfl,AU T.p58 (hA7.ext hx8),rfl⟩,EX,false,rfl,hx07.trans hx8,fun _=>⟨rfl,(hSn.1 rfl).2⟩,fun e=>absurd e Bool.false_ne_true⟩
 | true =>
  obtain ⟨v,hsv,hrv⟩:=hSn.2 rfl
  have hv:v∈vs:=by obtain ⟨n,_,_,h3,_⟩:=hsv;exact List.mem_of_getElem? h3
  have htv:=hR.str.good.all v hv
  obtain ⟨tx,htx,hts⟩:=htv.val
  have hkind:r.raw.kind=1:=by have:=(hrv #[]).val.kind;rw [htx] at this;exact this
  have hraw:∀H,Rv H r.raw ⟨1,tx,[],[],[]⟩:=fun H=>by have:=(hrv H).val;rw [htx] at this;exact this
  repeat' (first|refine R1 ?_|(refine Q1 ?_;first|(refine Q34 T.a169 (hb:=hA8) (hv:=Jy _) ?_)|(refine Q2 (hu:=by (first|exact T.f171_3|exact T.f169_0)) ?_)|(refine Q3 (hu:=T.p3) ?_))|refine R2 ?_|(apply Za;exact rfl;all_goals (intro h;try (exfalso;omega)))|fail)
  all_goals try (exfalso;simp only at *;omega)
  refine Q1 ?_;refine Q4 (hc:=Es (hraw _) (by simp) (by simp) (by simp)) ?_;rintro _ w6 ⟨r6,rfl,hr6,_,_,hx6⟩;refine Kc ?_
  have hr6':∀H,Rv H r6 ⟨1,tx,[],[],[]⟩:=fun H=>by
   obtain ⟨h1,h2⟩:=Dk.of_rv hr6 hts
   have:=h1.rv H
   rw [h2] at this;exact this
  replace hA8:=hA8.ext hx6
  have z6:=hx6.size
  have z35:=hx35.size
  repeat' (refine Q1 ?_;(refine Q2 (hu:=T.f171_3) ?_))
  refine Q1 ?_;refine Q5 T.z169 hA8 ?_;intro w7 hA8 hg7 hs7
  replace hA8:Blk w7.heap a8 171 (AO.enc ⟨r.stamp,r.gone,r.exp,r6⟩):=hA8
  have hA6':=(hA6.ext hx6).grown hg7 (fun e=>by injection e;omega)
  have hA7':=(hA7.ext hx6).grown hg7 (fun e=>by injection e;omega)
  have hx07:Ext w w7:=((hx02.trans hx25).trans hx6).own hg7 (fun k hk=>by injection hk;have:=(hx02.trans hx3).size;omega)
  have hz07:=hx07.size
  repeat' (first|(refine Q1 ?_;(refine Q11 T.a171 (hb:=hA8) ?_))|refine R1 ?_|fail)
  refine Q1 ?_;refine Q5 T.z171 hA6' ?_;intro w8 hA6 hg8 hs8
  replace hA6:Blk w8.heap a6 171 (AO.enc ⟨r.stamp,r.gone,r.exp,r6⟩):=hA6
  have hA7'':=hA7'.grown hg8 (fun e=>by injection e;omega)
  have hA8':=hA8.grown hg8 (fun e=>by injection e;omega)
  skip
  refine Q1 ?_;refine Q5 T.z58 hA7'' ?_;intro w9 hA7 hg9 hs9
  replace hA7:Blk w9.heap a7 58 [.int .i64 0]:=hA7
  have hA6'':=hA6.grown hg9 (fun e=>by injection e;omega)
  have hA8'':=hA8'.grown hg9 (fun e=>by injection e;omega)
  have hx09:Ext w w9:=(hx07.own hg8 (fun k hk=>by injection hk;omega)).own hg9 (fun k hk=>by injection hk;omega)
  repeat' (first|refine R1 ?_|refine R2 ?_|fail)
  refine ZE Tryz.results275 rfl (TP rfl) (fun w10 hx10=>?_)
  refine ⟨_,⟨_,_,_,rfl,rfl,Ae T.a171 (hA6''.ext hx10) rfl,_,_,_,rfl,rfl,AU T.p58 (hA7.ext hx10),rfl⟩,⟨r.stamp,r.gone,r.exp,r6⟩,true,rfl,hx09.trans hx10,fun e=>absurd e.symm Bool.false_ne_true,fun _=>⟨v,hsv,fun H=>?_⟩⟩
  have hq:=hrv H
  exact ⟨hq.stamp,hq.gone,hq.exp,by rw [htx];exact hr6' H⟩
theorem Mo (hR:RdB w t m st ix mp start c0 F key vs last mark) (hV:Blk w.heap vw 346 [.iface 108 (.pointer (some (adr (bx t) 0)))]):Ctr Tryz.prog 251 [.pointer (some (adr (bx vw) 0)),.string key] w (fun x w'=>∃r ok,x=.tuple #[.agg (AO.enc r).toArray,.int .i64 0]∧Ext w w'∧Dv vs start c0 r ok):=by
 refine Ac Tryz.func251 Tryz.ntmps251 rfl rfl rfl ?_
 repeat' (refine R1 ?_)
 refine Q1 ?_;refine Q7 T.zero171 ?_;intro a4 w1 ha4 hA4 hx1 hs1
 repeat' (first|refine R1 ?_|(refine Q1 ?_;(refine Q4 (f:=275) (hc:=WK (hR.ext hx1) (hV.ext hx1)) ?_;rintro _ w2 ⟨r,ok,rfl,hx2,hSn⟩;refine Kc ?_;replace hA4:=hA4.ext (Kx hx2)))|refine R2 ?_|fail)
 refine Q1 ?_;refine Q5 T.z171 hA4 ?_;intro w3 hA4 hg3 hs3
 replace hA4:Blk w3.heap a4 171 (AO.enc r):=hA4
 repeat' (first|refine R1 ?_|refine R2 ?_|fail)
 refine Ze Tryz.results251 ⟨_,_,_,rfl,rfl,Ae T.a171 (by assumption) rfl,_,_,rfl,rfl,rfl⟩ ?_
 exact ⟨r,ok,rfl,(hx1.trans hx2).own hg3 (fun k hk=>by injection hk;omega),hSn⟩
theorem Ic {r:Bg}:Ctr Tryz.prog 252 [.int .i64 0,.agg (Aq.enc r).toArray] w (fun v w'=>v=.agg (Aq.enc r).toArray∧Ext w w'):=by
 refine Ac Tryz.func252 Tryz.ntmps252 rfl rfl rfl ?_
 repeat' (refine R1 ?_)
 refine Q1 ?_;refine Q8 ?_;intro a3 w1 ha3 hA3 hx1 hs1
 replace hA3:Blk w1.heap a3 33 (Aq.enc r):=hA3
 skip
 refine Q1 ?_;refine Q7 T.zero33 ?_;intro a4 w2 ha4 hA4 hx2 hs2
 replace hA3:=hA3.ext hx2
 repeat' (first|refine R1 ?_|(refine Q1 ?_;(refine Q11 T.a33 (hb:=hA3) ?_))|refine R2 ?_|fail)
 all_goals try (exfalso;simp only at *;omega)
 refine Q1 ?_;refine Q5 T.z33 hA4 ?_;intro w3 hA4 hg3 hs3
 replace hA4:Blk w3.heap a4 33 (Aq.enc r):=hA4
 have hA3':=hA3.grown hg3 (fun e=>by injection e;omega)
 repeat' (first|refine R1 ?_|refine R2 ?_|fail)
 refine Ze Tryz.results252 ⟨_,_,_,rfl,rfl,Ae T.a33 (by assumption) rfl,rfl⟩ ?_
 exact ⟨rfl,(hx1.trans hx2).own hg3 (fun k hk=>by injection hk;omega)⟩
end Go.Proofs.YtkcolpfanmdmiaaGreatDoor
namespace Go.V
variable {g : Option (Nat × Bool)} {t : TypeId}
theorem Q118 (hx:E.look x=some (.iface t (.pointer (some a)))) (hd:Ah n d=true) (h:G P n ops dr l (E.put d (.iface t (.pointer (some a)))) w K):G1 P n ops dr ⟨d,.nilCheck x,ty,pos,af,g⟩ l E w K :=
 Zd _ hd (fun a ha w' _=>by simp [execOp,ha.eval hx]) h
end Go.V
namespace Go.Proofs.YtkcolpfanmdmiaaGreatDoor
open Go.V
attribute [local irreducible] Blk Own hcell Ao Ab PlainT Ak Ad Ap Aa Ag EqT Au
theorem Us (k : Nat) (w : World) : (Go.method (Tryz.prog.types.size + Made.depth) 108 (.pointer (some (adr (bx k) 0))) "Put").run Tryz.prog w = .ok (609, .pointer (some (adr (bx k) 0))) w := by kernel_rfl
theorem TN {cap:Array Value} (hc:cap.size=1) {w:World}:JA Tryz.prog 375 cap w :=
 JM Tryz.func375 (by decide) rfl rfl (fun w=>by kernel_rfl) (fun w=>by kernel_rfl) (by rw [hc];decide) (by rw [hc];decide)
variable {ts : List TG} {a : TG}
theorem Mm {rv:CO} {e:Int} (hM:AL g w m st k clk ts) (hi:ts[i]?=some a) (hro:a.ro=false) (hk:key.size≤256) (hp:BF g w a.mp none) (hT:Dk rv) (he0:0≤e) (he1:e≤1099511627776) (hV:Blk w.heap vw 346 [.iface 108 (.pointer (some (adr (bx a.t) 0)))]) :
  Ctr Tryz.prog 262 [.pointer (some (adr (bx vw) 0)),.string key,.agg (Dl.enc rv).toArray,.int .i64 e] w (fun v w'=>v=.int .i64 0∧∃g' x,Stq ix [7] g g' w w'∧BF g' w' a.mp (some x)∧x.key=key∧x.exp=e∧x.val.text=rv.text):=by
 have hkind:=hT.kind
 refine Ez Tryz.func262 Tryz.ntmps262 rfl rfl rfl ?_
 repeat' (refine R1 ?_)
 refine Q1 ?_;refine Q8 ?_;intro a6 w1 ha6 hA6 hx1 hs1
 replace hA6:Blk w1.heap a6 169 (Dl.enc rv):=hA6
 skip
 refine Q1 ?_;refine Q7 T.zero58 ?_;intro a8 w2 ha8 hA8 hx2 hs2
 replace hA6:=hA6.ext hx2
 have hx02:=hx1.trans hx2
 repeat' (first|refine R1 ?_|(refine Q1 ?_;first|refine Q40 ?_|(refine Q2 (hu:=T.f169_0) ?_)|(refine Q3 (hu:=T.p3) ?_))|refine R2 ?_|((fail_if_success (refine Q1 ?_));apply Zb;exact rfl;exact rfl;all_goals (intro h;try (exfalso;omega)))|fail)
 all_goals try (exfalso;simp only at *;omega)
 refine Zl 2 [] (.node [0,1,2,4,7] (.alt 3 (.node [8,9] (.alt 5 (.leaf [6,10,11]) .stop)) (.alt 5 (.node [] (.alt 3 (.leaf [8,9,6,10,11]) (.alt 6 (.node [] (.alt 3 (.leaf [8,9,10,11]) .stop)) .stop))) .stop))) mixed (by decide +kernel) ?_
 have hd:Ext w2 w2.drew:=Ext.drew Ext.rfl'
 have hx0d:=hx02.trans hd
 have hVd:=hV.ext hx0d
 have hAd:=hA6.ext hd
 have hrv:∀H,Rv H rv ⟨1,rv.text,[],[],[]⟩:=fun H=>hT.rv H
 repeat' (first|refine R1 ?_|(refine Q1 ?_;first|refine Q118 rfl rfl ?_|(refine Q3 (hu:=T.p344) (hb:=hVd) ?_)|(refine Q11 T.a169 (hb:=hAd) ?_)|(refine Q4 (f:=162) (hc:=Es (hrv _) (by simp) (by simp) (by simp)) ?_;rintro _ w5 ⟨r5,rfl,hr5,_,_,hx5⟩;refine Kc ?_;replace hVd:=hVd.ext (Kx hx5))|(refine Q2 (hu:=T.f346_0) ?_))|(refine Zj ?_)|(refine Zp ?_)|(apply Zv)|refine R2 ?_|(exact Zq)|fail)
 all_goals
  have hx05:=hx0d.trans hx5
  have hx25:=hd.trans hx5
  obtain ⟨hT5,ht5⟩:=Dk.of_rv hr5 hT.size
  have hB5:Bk (rt g w 0) w5 0 a8 58 _:=Bk.new (hA8.ext hx25) (by omega) (by unfold ixT;decide)
  skip
  refine Q1 ?_
  refine Q38 (Us _ _) (WI (ix:=ix) (hM.ext hx05 0) hi hro hk (hp.ext hx05 0) hT5 he0 he1) ?_
  rintro _ w6 ⟨rfl,g6,x6,hS6,hp6,hk6,he6,ht6⟩
  refine ⟨.inl rfl,?_⟩
  have hB6:=hB5.stp hS6 (by decide)
  have hb6:=hB6.blk
  skip
  refine Q1 ?_;refine Q5 T.z58 hb6 ?_;intro w7 hA7 hg7 hs7
  replace hA7:Blk w7.heap a8 58 [.int .i64 0]:=hA7
  have hS05:Stq ix [7] g (rt g w 0) w w5:=Stq.of_ext hx05 0
  have hS7:=hB6.stpG (T:=[0]) (ix:=ix) hg7 0 (by decide)
  have hSS:=(hS05.trans hS6).own hg7 (by omega) 0
  have hp7:=hp6.stp hS7 (by decide)
  repeat' (first|refine R1 ?_|refine R2 ?_|fail)
  refine ZE Tryz.results262 rfl (TN rfl) (fun w8 hx8=>?_)
  exact ⟨_,⟨_,_,_,rfl,rfl,AU T.p58 (hA7.ext hx8),rfl⟩,rfl,_,x6,hSS.trans (Stq.of_ext hx8 0),hp7.ext hx8 0,hk6,he6,ht6.trans ht5⟩
end Go.Proofs.YtkcolpfanmdmiaaGreatDoor
namespace Go.V
def Cv:Enc (ByteArray × Int × Int × Int):=⟨4,fun x=>[.string x.1,.int .i64 x.2.1,.int .i64 x.2.2.1,.int .i64 x.2.2.2],fun _=>rfl,fun _ v hv=>by simp at hv;rcases hv with rfl|rfl|rfl|rfl <;> rfl,by decide⟩
end Go.V
namespace Go.Proofs.YtkcolpfanmdmiaaGreatDoor
open Go.V
attribute [local irreducible] Blk Own hcell Ao Ab PlainT Ak Ad Ap Aa Ag EqT Au
def AQ:List (ByteArray × Int × Int × Int):=[(⟨#[65,80,80,69,78,68]⟩,2,2,1),(⟨#[66,73,84,67,79,85,78,84]⟩,1,3,2),(⟨#[66,73,84,79,80]⟩,3,(-1),1),(⟨#[66,73,84,80,79,83]⟩,2,2,1),(⟨#[68,69,67,82]⟩,1,1,1),(⟨#[68,69,67,82,66,89]⟩,2,2,1),(⟨#[71,69,84]⟩,1,1,1),(⟨#[71,69,84,66,73,84]⟩,2,2,1),(⟨#[71,69,84,68,69,76]⟩,1,1,1),(⟨#[71,69,84,69,88]⟩,1,(-1),1),(⟨#[71,69,84,82,65,78,71,69]⟩,3,3,1),(⟨#[71,69,84,83,69,84]⟩,2,2,1),(⟨#[73,78,67,82]⟩,1,1,1),(⟨#[73,78,67,82,66,89]⟩,2,2,1),(⟨#[77,71,69,84]⟩,1,(-1),1),(⟨#[77,83,69,84]⟩,2,(-1),2),(⟨#[77,83,69,84,78,88]⟩,2,(-1),2),(⟨#[83,69,84]⟩,2,(-1),1),(⟨#[83,69,84,66,73,84]⟩,3,3,1),(⟨#[83,69,84,69,88]⟩,3,3,1),(⟨#[83,69,84,78,88]⟩,2,2,1),(⟨#[83,69,84,82,65,78,71,69]⟩,3,3,1),(⟨#[83,84,82,76,69,78]⟩,1,1,1)]
theorem Rh (s:ByteArray) (a:Int) (b:Int) (c:Int) (w:World):(Instr.build 308 [(0,Value.string s),(1,Value.int .i64 a),(2,Value.int .i64 b),(3,Value.int .i64 c)].toArray).run Tryz.prog w=.ok (.agg #[.string s,.int .i64 a,.int .i64 b,.int .i64 c]) w:=by kernel_rfl
set_option maxRecDepth 4000 in
theorem FC {w:World}:Ctr Tryz.prog 198 [] w (fun v w'=>∃q,v=.slice q AQ.length AQ.length∧Go.V.Own w' w.heap.size 308 Cv q AQ.length AQ∧Ext w w'):=by
 refine Ac Tryz.func198 Tryz.ntmps198 rfl rfl rfl ?_
 repeat' (first|refine R1 ?_|(refine Q1 ?_;(apply Zi;exact rfl;exact Rh _ _ _ _;exact rfl))|fail)
 refine Q1 ?_
 refine Q24 Cv AQ T.s305 ?_
 intro q w1 ho hx hz
 repeat' (first|refine R1 ?_|refine R2 ?_|fail)
 refine Kr Tryz.results198 ?_
 exact ⟨q,rfl,ho,hx⟩
theorem Kn {w:World}:Ctr Tryz.prog 137 [] w (fun v w'=>∃q c,v=.slice q (AQ.map (·.1)).length c∧Go.V.Own w' w.heap.size 9 Ar q c (AQ.map (·.1))∧Ext w w'):=by
 have hll:AQ.length≤100:=by decide
 refine Ac Tryz.func137 Tryz.ntmps137 rfl rfl rfl ?_
 repeat' (first|refine R1 ?_|(refine Q1 ?_;first|(refine Q4 (f:=198) (hc:=FC) ?_;rintro _ w1 ⟨q1,rfl,hO1,hx1⟩;refine Kc ?_)|(refine Q6 (hu:=T.s305) ?_))|fail)
 refine Q1 ?_
 refine Q28 Ar T.s61 ?_
 intro p2 w2 ho2 hx2 hz2
 have hS2:=hO1.ext hx2
 have z1:=hx1.size
 repeat' (first|refine R1 ?_|(refine Q1 ?_;(refine Q6 (hu:=T.s305) ?_))|refine R2 ?_|fail)
 refine Zh (ι:=Nat × Option Addr × Nat) (fun y=>[(2,.slice y.2.1 ((AQ.take y.1).map (·.1)).length y.2.2),(9,.slice q1 AQ.length AQ.length),(10,.int .i64 (AQ.length:Int)),(11,.int .i64 (y.1:Int))])
  (fun y w'=>Ext w w'∧Go.V.Own w' w.heap.size 308 Cv q1 AQ.length AQ∧y.1≤AQ.length∧Go.V.Own w' w.heap.size 9 Ar y.2.1 y.2.2 ((AQ.take y.1).map (·.1))) (fun y=>AQ.length - y.1) (0,p2,_) ⟨rfl,rfl,rfl,rfl,trivial⟩ ⟨hx1.trans hx2,hS2,Nat.zero_le _,ho2.base z1⟩ ?_
 rintro ⟨k,p,c⟩ w3 ⟨hx3,hR3,hk,hO3⟩
 have hS3:=hR3.sl
 simp only at hk hO3
 refine Zn [(2,.slice p ((AQ.take k).map (·.1)).length c),(9,.slice q1 AQ.length AQ.length),(10,.int .i64 (AQ.length:Int)),(11,.int .i64 (k:Int))] ⟨rfl,rfl,rfl,rfl,trivial⟩ ?_
 by_cases hlt:k<AQ.length
 ·obtain ⟨x,hx⟩:=Aj hlt
  repeat' (first|(refine Q1 ?_;first|(refine Q14 T.a308 (e:=Cv) (hs:=hS3) (hq:=hx) ?_)|refine Q13 T.s305 ?_)|refine R1 ?_|refine R2 ?_|(apply Za;exact rfl;all_goals (intro h;try (exfalso;omega)))|fail)
  all_goals try (exfalso;omega)
  refine Q1 ?_;refine Q7 T.zero308 ?_;intro a4 w4 ha4 hA4 hx4 hs4
  skip
  refine Q1 ?_;refine Q5 T.z308 hA4 (hl:=Enc.len Cv _) ?_;intro w5 hA5 hg5 hs5
  replace hA5:Blk w5.heap a4 308 (Cv.enc x):=hA5
  have hx35:Ext w3 w5:=hx4.own hg5 (fun k hk=>by injection hk;omega)
  repeat' (first|refine R1 ?_|(refine Q1 ?_;first|(refine Q2 (hu:=T.f308_0) ?_)|(refine Q3 (hu:=T.p9) ?_))|fail)
  refine Q1 ?_
  refine Q12 Ar x.1 T.s61 ?_
  intro p6 w6 hp6 hs6 _ hx6 hz6
  have hx36:=hx35.trans hx6
  have hO6:=hO3.ext hx36
  have z36:=(hx3.trans hx36).size
  have htl:((AQ.take k).map (·.1)).length≤100:=by simp;omega
  repeat' (first|refine R1 ?_|(refine Q1 ?_;(refine Q16 T.s61 hO6 hs6 ?_;intro p7 c7 w7 ha7))|refine R2 ?_|fail)
  exact Zc (k+1,p7,c7) ⟨by simp only [AJ hx,List.map_append];rfl,rfl,rfl,rfl,trivial⟩ ⟨(hx3.trans hx36).app ha7 (fun k hk=>(hO3.ge k hk).1),(hR3.ext hx36).kept ha7.grown (hO6.neT (hR3.ext hx36) (by decide)),by simp only;omega,by simp only [AJ hx,List.map_append];exact ha7.own⟩ (by simp only;omega)
 ·obtain rfl:k=AQ.length:=by omega
  repeat' (first|refine R1 ?_|refine R2 ?_|fail)
  all_goals try (exfalso;omega)
  refine Kr Tryz.results137 ?_
  rw [List.take_length] at hO3
  exact ⟨p,c,by rw [List.take_length];rfl,hO3,hx3⟩
theorem Wl {p:Option Addr} {c:Nat} {a:Int} {bs:List Int} {w:World} (ha:AC a) (hC:Sl w.heap He p c bs) (hb:∀b∈bs,AC b):Ctr Tryz.prog 381 [.int .i64 a,.slice p bs.length c] w (fun v w'=>v=.tuple #[.int .i64 (sums a bs).1,.bool (sums a bs).2]∧Ext w w'):=by
 have n1:=hC.bound
 refine Ac Tryz.func381 Tryz.ntmps381 rfl rfl rfl ?_
 repeat' (first|refine R1 ?_|(refine Q1 ?_;(refine Q6 (hu:=T.s41) ?_))|refine R2 ?_|fail)
 refine Zh (ι:=Nat × Int) (fun y=>[(6,.int .i64 y.2),(10,.slice p bs.length c),(11,.int .i64 (bs.length:Int)),(12,.int .i64 (y.1:Int))]) (fun y w'=>Ext w w'∧y.1≤bs.length∧AC y.2∧sums a bs=sums y.2 (bs.drop y.1)) (fun y=>bs.length - y.1) (0,a) ⟨rfl,rfl,rfl,rfl,trivial⟩ ⟨Kz,Nat.zero_le _,ha,rfl⟩ ?_
 rintro ⟨k,s⟩ w1 ⟨hx,hk,hs,hsum⟩
 simp only at hk hs hsum
 refine Zn [(6,.int .i64 s),(10,.slice p bs.length c),(11,.int .i64 (bs.length:Int)),(12,.int .i64 (k:Int))] ⟨rfl,rfl,rfl,rfl,trivial⟩ ?_
 have hC1:=hC.ext hx
 by_cases hlt:k<bs.length
 ·obtain ⟨b,hbk⟩:=Aj hlt
  have hfb:=hb b (List.mem_of_getElem? hbk)
  have hd:bs.drop k=b :: bs.drop (k+1):=by
   rw [List.drop_eq_getElem_cons hlt]
   rw [List.getElem?_eq_getElem hlt] at hbk
   injection hbk with hbk
   rw [hbk]
  rw [hd,sums] at hsum
  unfold AC at hs hfb
  by_cases hf:-9223372036854775808≤s+b∧s+b≤9223372036854775807
  ·replace hsum:=hsum.trans (if_pos hf)
   repeat' (first|refine R1 ?_|(refine Q1 ?_;first|refine Q13 T.s41 ?_|(refine Q9 (hu:=T.p3) ?_))|refine R2 ?_|(apply Za;exact rfl;all_goals (intro h;try (exfalso;omega)))|((fail_if_success (refine Q1 ?_));apply Zb;exact rfl;exact rfl;all_goals (intro h;try (exfalso;omega)))|fail)
   all_goals try (exfalso;omega)
   all_goals exact Zc (k+1,s+b) ⟨rfl,rfl,rfl,rfl,trivial⟩ ⟨Kz,by simp only;omega,hf,hsum⟩ (by simp only;omega)
  ·replace hsum:=hsum.trans (if_neg hf)
   repeat' (first|refine R1 ?_|(refine Q1 ?_;first|refine Q13 T.s41 ?_|(refine Q9 (hu:=T.p3) ?_))|refine R2 ?_|(apply Za;exact rfl;all_goals (intro h;try (exfalso;omega)))|((fail_if_success (refine Q1 ?_));apply Zb;exact rfl;exact rfl;all_goals (intro h;try (exfalso;omega)))|fail)
   all_goals try (exfalso;omega)
   all_goals
    refine Kr Tryz.results381 ?_
    rw [hsum]
    exact ⟨rfl,Kz⟩
 ·rw [List.drop_of_length_le (by omega)] at hsum
  repeat' (first|refine R1 ?_|refine R2 ?_|(apply Za;exact rfl;all_goals (intro h;try (exfalso;omega)))|fail)
  refine Kr Tryz.results381 ?_
  rw [hsum]
  exact ⟨rfl,Kz⟩
theorem Uc {p:Option Addr} {c:Nat} {xs:List ByteArray} {s:ByteArray} (hS:Sl w.heap Ar p c xs):Ctr Tryz.prog 217 [.slice p xs.length c,.string s] w (fun v w'=>(∃i:Int,v=.int .i64 i∧(0≤i ↔ s∈xs))∧w=w'):=by
 have hbd:=hS.bound
 refine Ac Tryz.func217 Tryz.ntmps217 rfl rfl rfl ?_
 repeat' (first|refine R1 ?_|(refine Q1 ?_;(refine Q6 (hu:=T.s61) ?_))|refine R2 ?_|fail)
 refine Zh (ι:=Nat) (fun k=>[(0,.slice p xs.length c),(1,.string s),(7,.int .i64 (xs.length:Int)),(8,.int .i64 (k:Int))]) (fun k w'=>w=w'∧k≤xs.length∧∀x∈xs.take k,x≠s) (fun k=>xs.length - k) 0 ⟨rfl,rfl,rfl,rfl,trivial⟩ ⟨rfl,Nat.zero_le _,by simp⟩ ?_
 rintro k _ ⟨rfl,hk,hno⟩
 by_cases hlt:k<xs.length
 ·obtain ⟨x,hx⟩:=Aj hlt
  repeat' (first|refine R1 ?_|(refine Q1 ?_;first|(refine Q9 (q:=k) (e:=Ar) (hu:=T.p9) (hs:=hS) (hq:=hx) ?_)|refine Q13 T.s61 ?_)|refine R2 ?_|(apply Za;exact rfl;all_goals (intro h;try (exfalso;omega)))|fail)
  ·refine Kr Tryz.results217 ?_
   exact ⟨⟨k,rfl,⟨fun _=>by
    have e:x=s:=by first|exact h|exact h.symm|simpa using h|(have:=h;simp_all)
    rw [← e];exact List.mem_of_getElem? hx,fun _=>by omega⟩⟩,rfl⟩
  ·exact Zc (k+1) ⟨rfl,rfl,rfl,rfl,trivial⟩ ⟨rfl,by omega,by
    rw [AJ hx]
    intro y hy
    rcases List.mem_append.1 hy with hy|hy
    ·exact hno y hy
    ·simp at hy;subst hy;first|exact h|exact fun e=>h e.symm|(intro e;simp_all)⟩ (by omega)
 ·obtain rfl:k=xs.length:=by omega
  repeat' (first|refine R1 ?_|refine R2 ?_|(apply Za;exact rfl;all_goals (intro h;try (exfalso;omega)))|fail)
  all_goals try (exfalso;omega)
  refine Kr Tryz.results217 ?_
  rw [List.take_length] at hno
  exact ⟨⟨-1,rfl,⟨fun h=>by omega,fun h=>absurd rfl (hno s h)⟩⟩,rfl⟩
theorem Da {p:Option Addr} {c:Nat} {xs:List ByteArray} {s:ByteArray} (hS:Sl w.heap Ar p c xs):Ctr Tryz.prog 149 [.slice p xs.length c,.string s] w (fun v w'=>(∃b:Bool,v=.bool b∧(b=true ↔ s∈xs))∧w=w'):=by
 refine Ac Tryz.func149 Tryz.ntmps149 rfl rfl rfl ?_
 repeat' (first|refine R1 ?_|(refine Q1 ?_;(refine Q4 (f:=217) (hc:=Uc hS) ?_;rintro _ _ ⟨⟨i,rfl,hi⟩,rfl⟩;refine Kc ?_))|refine R2 ?_|fail)
 refine Kr Tryz.results149 ?_
 exact ⟨⟨_,rfl,by rw [← hi];simp⟩,rfl⟩
theorem Vw (s:ByteArray) (w:World):(Instr.build 169 [(0,Value.int .i64 1),(1,Value.string s)].toArray).run Tryz.prog w=.ok (.agg (Dl.enc ⟨1,s,none,0,0,none,0,0,none,0,0⟩).toArray) w:=by kernel_rfl
theorem Nw {s:ByteArray}:Ctr Tryz.prog 263 [.string s] w (fun v w'=>v=.agg (Dl.enc ⟨1,s,none,0,0,none,0,0,none,0,0⟩).toArray∧Ext w w'):=by
 refine Ac Tryz.func263 Tryz.ntmps263 rfl rfl rfl ?_
 repeat' (refine R1 ?_)
 refine Q1 ?_;refine Q7 T.zero169 ?_;intro a2 w1 ha2 hA2 hx1 hs1
 repeat' (first|refine R1 ?_|(refine Q1 ?_;(apply Zi;exact rfl;exact Vw _;exact rfl))|fail)
 refine Q1 ?_;refine Q5 T.z169 hA2 ?_;intro w2 hA2 hg2 hs2
 replace hA2:Blk w2.heap a2 169 (Dl.enc ⟨1,s,none,0,0,none,0,0,none,0,0⟩):=hA2
 repeat' (first|refine R1 ?_|refine R2 ?_|fail)
 refine Ze Tryz.results263 ⟨_,_,_,rfl,rfl,Ae T.a169 (by assumption) rfl,rfl⟩ ?_
 exact ⟨rfl,hx1.own hg2 (fun k hk=>by injection hk;omega)⟩
def Dp (r:Aw):Bg:=if r.raw.kind=1 then Av 3 r.raw.text 0 else Av 4 ⟨#[]⟩ 0
theorem Lr {r:Aw}:Ctr Tryz.prog 253 [.agg (AO.enc r).toArray] w (fun v w'=>v=.agg (Aq.enc (Dp r)).toArray∧Ext w w'):=by
 refine Ac Tryz.func253 Tryz.ntmps253 rfl rfl rfl ?_
 repeat' (refine R1 ?_)
 refine Q1 ?_;refine Q8 ?_;intro a1 w1 ha1 hA1 hx1 hs1
 replace hA1:Blk w1.heap a1 171 (AO.enc r):=hA1
 skip
 refine Q1 ?_;refine Q7 T.zero33 ?_;intro a2 w2 ha2 hA2 hx2 hs2
 replace hA1:=hA1.ext hx2
 have hx02:=hx1.trans hx2
 by_cases hk:r.raw.kind=1
 ·have e:Dp r=Av 3 r.raw.text 0:=if_pos hk
  rw [e]
  repeat' (first|(refine Q1 ?_;first|(refine Q2 (hu:=by (first|exact T.f171_3|exact T.f169_0|exact T.f169_1)) ?_)|(refine Q4 (f:=195) (hc:=XF) ?_;rintro _ w3 ⟨rfl,hx3⟩;refine Kc ?_;replace hA1:=hA1.ext (Kx hx3);replace hA2:=hA2.ext (Kx hx3))|(refine Q3 (hu:=by (first|exact T.p3|exact T.p9)) ?_))|refine R1 ?_|refine R2 ?_|(apply Za;exact rfl;all_goals (intro h;try (exfalso;omega)))|fail)
  all_goals try (exfalso;simp only at *;omega)
  refine Q1 ?_;refine Q5 T.z33 hA2 ?_;intro w4 hA4 hg4 hs4
  replace hA4:Blk w4.heap a2 33 (Aq.enc (Av 3 r.raw.text 0)):=hA4
  repeat' (first|refine R1 ?_|refine R2 ?_|fail)
  refine Ze Tryz.results253 ⟨_,_,_,rfl,rfl,Ae T.a33 (by assumption) rfl,rfl⟩ ?_
  exact ⟨rfl,(hx02.trans hx3).own hg4 (fun k hk=>by injection hk;omega)⟩
 ·have e:Dp r=Av 4 ⟨#[]⟩ 0:=if_neg hk
  rw [e]
  repeat' (first|(refine Q1 ?_;first|(refine Q2 (hu:=by (first|exact T.f171_3|exact T.f169_0)) ?_)|(refine Q4 (f:=368) (hc:=Wh) ?_;rintro _ w3 ⟨rfl,hx3⟩;refine Kc ?_;replace hA1:=hA1.ext (Kx hx3);replace hA2:=hA2.ext (Kx hx3))|(refine Q3 (hu:=T.p3) ?_))|refine R1 ?_|refine R2 ?_|(apply Za;exact rfl;all_goals (intro h;try (exfalso;omega)))|fail)
  all_goals try (exfalso;simp only at *;omega)
  refine Q1 ?_;refine Q5 T.z33 hA2 ?_;intro w4 hA4 hg4 hs4
  replace hA4:Blk w4.heap a2 33 (Aq.enc (Av 4 ⟨#[]⟩ 0)):=hA4
  repeat' (first|refine R1 ?_|refine R2 ?_|fail)
  refine Ze Tryz.results253 ⟨_,_,_,rfl,rfl,Ae T.a33 (by assumption) rfl,rfl⟩ ?_
  exact ⟨rfl,(hx02.trans hx3).own hg4 (fun k hk=>by injection hk;omega)⟩
end Go.Proofs.YtkcolpfanmdmiaaGreatDoor
namespace Go.V
variable {g : Option (Nat × Bool)} {t : TypeId}
theorem Q32 (h:G P n ops dr l (E.put d (.bool false)) w K) (hx:E.look x=some (.string s):=by exact rfl) (hy:E.look y=some (.string s'):=by exact rfl) (he:¬s=s':=by decide) (hd:Ah n d=true:=by exact rfl):G1 P n ops dr ⟨d,.binOp .eql t x y t',ty,pos,af,g⟩ l E w K :=
 ZC hx hy hd (by rw [decide_eq_false he];exact h)
theorem Q35 (h:G P n ops dr l (E.put d (.bool true)) w K) (hx:E.look x=some (.string s):=by exact rfl) (hy:E.look y=some (.string s'):=by exact rfl) (he:s=s':=by decide) (hd:Ah n d=true:=by exact rfl):G1 P n ops dr ⟨d,.binOp .eql t x y t',ty,pos,af,g⟩ l E w K :=
 ZC hx hy hd (by rw [decide_eq_true he];exact h)
end Go.V
namespace Go.Proofs.YtkcolpfanmdmiaaGreatDoor
open Go.V
attribute [local irreducible] Blk Own hcell Ao Ab PlainT Ak Ad Ap Aa Ag EqT Au
theorem Kl (k : Nat) (w : World) : (Go.method (Tryz.prog.types.size + Made.depth) 108 (.pointer (some (adr (bx k) 0))) "Clock").run Tryz.prog w = .ok (605, .pointer (some (adr (bx k) 0))) w := by kernel_rfl
variable {ts : List TG} {a : TG} {d : Nat}
theorem Mj (hT:Gg w t m start c0 ro mp o):Ctr Tryz.prog 605 [.pointer (some (adr (bx t) 0))] w (fun v w'=>v=.int .i64 c0∧w=w'):=by
 have hb:=hT.box
 refine Ac Tryz.func605 Tryz.ntmps605 rfl rfl rfl ?_
 repeat' (first|refine R1 ?_|(refine Q1 ?_;first|(refine Q2 (hu:=T.f111_2) ?_)|(refine Q3 (hu:=T.p3) ?_))|refine R2 ?_|fail)
 refine Kr Tryz.results605 ?_
 exact ⟨rfl,rfl⟩
theorem PW (hM:AL g w m st k clk ts) (hi:ts[i]?=some a) (hp:BF g w a.mp none) (hS:Cf g w st ix key vs last mark) (hk:key.size≤256):∃F,RdB w a.t m st ix a.mp a.start a.clk F key vs last mark:=by
 have hb:=(hM.act a (List.mem_of_getElem? hi)).blk
 obtain ⟨⟨pa,ca,h1,_⟩,_,_,_⟩:=hM
 obtain ⟨⟨F,hF,_⟩,_⟩:=hS
 exact ⟨F,⟨⟨a.ro,hb,hp.map,hp.ok⟩,⟨_,_,_,h1.blk⟩,hF,hk⟩⟩
theorem RB {n:Int} {F:Nat→Prop} (hR:RdB w t m st ix mp start c0 F key vs last mark) (hV:Blk w.heap vw 346 [.iface 108 (.pointer (some (adr (bx t) 0)))]) (hn:1≤n) (hc:0≤c0) (hle:c0+n≤1099511627776) :
  Ctr Tryz.prog 374 [.agg #[.pointer (some (adr (bx vw) 0)),.slice q nq d],.int .i64 n] w (fun v w'=>v=.tuple #[.int .i64 (c0+n),.int .i64 0]∧Ext w w'):=by
 refine Ac Tryz.func374 Tryz.ntmps374 rfl rfl rfl ?_
 repeat' (refine R1 ?_)
 refine Q1 ?_;refine Q8 ?_;intro a2 w1 ha2 hA2 hx1 hs1
 replace hA2:Blk w1.heap a2 310 [.pointer (some (adr (bx vw) 0)),.slice q nq d]:=hA2
 have hV1:=hV.ext hx1
 have hR1:=hR.ext hx1
 repeat' (first|refine R1 ?_|(refine Q1 ?_;first|(refine Q3 (hu:=T.p344) (hb:=hV1) ?_)|(refine Q2 (hu:=by (first|exact T.f310_0|exact T.f346_0)) ?_)|(refine Q3 (hu:=T.p259) ?_))|refine R2 ?_|(apply Za;exact rfl;all_goals (intro h;try (exfalso;omega)))|fail)
 all_goals try (exfalso;omega)
 refine Q1 ?_
 refine Q38 (Kl _ _) (Mj hR1.txn.choose_spec) ?_
 rintro _ _ ⟨rfl,rfl⟩
 refine ⟨.inl rfl,?_⟩
 repeat' (refine Q1 ?_;refine Q19 ?_)
 refine Q1 ?_
 refine Q12 He n T.s41 ?_
 intro p3 w3 hp3 hs3 _ hx3 hz3
 have hsum:sums c0 [n]=(c0+n,true):=by
  have hfit:AC (c0+n):=by unfold AC;omega
  simp only [sums,if_pos hfit]
 have hf:AC c0:=by unfold AC;omega
 have hfn:AC n:=by unfold AC;omega
 have hadd:=Wl (w:=w3) hf hs3 (fun b hb=>by simp at hb;subst hb;exact hfn)
 rw [hsum] at hadd
 repeat' (first|refine R1 ?_|(refine Q1 ?_;(refine Q4 (f:=381) (hc:=hadd) ?_;rintro _ w4 ⟨rfl,hx4⟩;refine Kc ?_))|refine R2 ?_|(apply Za;exact rfl;all_goals (intro h;try (exfalso;omega)))|fail)
 all_goals try (exfalso;omega)
 refine Kr Tryz.results374 ?_
 exact ⟨rfl,(hx1.trans hx3).trans hx4⟩
theorem okp0:Okp none 0 0:=⟨Nat.le_refl _,Nat.zero_le _,fun _=>rfl,fun _ h=>(by cases h)⟩
theorem Mi {s:ByteArray} (h:s.size≤4096):Dk ⟨1,s,none,0,0,none,0,0,none,0,0⟩:=⟨rfl,rfl,rfl,rfl,okp0,okp0,okp0,h⟩
theorem Qu {s:ByteArray} {life n e:Int} (hM:AL g w m st k clk ts) (hi:ts[i]?=some a) (hro:a.ro=false) (hp:BF g w a.mp none) (hS:Cf g w st ix key vs last mark) (hk:key.size≤256) (hs:s.size≤4096) (hV:Blk w.heap vw 346 [.iface 108 (.pointer (some (adr (bx a.t) 0)))])
  (hc:0≤a.clk) (hl:(life = -1∧n=0∧e=0)∨(life=2∧1≤n∧e=a.clk+n∧e≤1099511627776)) :
  Ctr Tryz.prog 260 [.agg #[.pointer (some (adr (bx vw) 0)),.slice q nq d],.string key,.string s,.agg #[.int .i64 (-1),.int .i64 life,.int .i64 n]] w (fun v w'=>v=.tuple #[.bool true,.int .i64 0]∧∃g' x,Stq ix [7] g g' w w'∧BF g' w' a.mp (some x)∧x.key=key∧x.exp=e∧x.val.text=s):=by
 obtain ⟨F,hR⟩:=PW hM hi hp hS hk
 refine Ac Tryz.func260 Tryz.ntmps260 rfl rfl rfl ?_
 repeat' (refine R1 ?_)
 refine Q1 ?_;refine Q8 ?_;intro a4 w1 ha4 hA4 hx1 hs1
 replace hA4:Blk w1.heap a4 310 [.pointer (some (adr (bx vw) 0)),.slice q nq d]:=hA4
 skip
 refine Q1 ?_;refine Q8 ?_;intro a7 w2 ha7 hA7 hx2 hs2
 replace hA7:Blk w2.heap a7 386 [.int .i64 (-1),.int .i64 life,.int .i64 n]:=hA7
 replace hA4:=hA4.ext hx2
 have hx02:=hx1.trans hx2
 rcases hl with ⟨rfl,rfl,rfl⟩|⟨rfl,hn,rfl,hle⟩
 ·have hV3:=hV.ext hx02
  have hR3:=hR.ext hx02
  have hx03:=hx02
  repeat' (first|refine R1 ?_|(refine Q1 ?_;first|(refine Q3 (hu:=T.p344) (hb:=hV3) ?_)|(refine Q2 (hu:=by (first|exact T.f386_1|exact T.f310_0|exact T.f346_0)) ?_)|(refine Q3 (hu:=by (first|exact T.p3|exact T.p259)) ?_))|refine R2 ?_|fail)
  refine Q1 ?_
  refine Q38 (Gv _ _) (MS hR3) ?_
  rintro _ w4 ⟨r4,ok4,rfl,hx4,_⟩
  refine ⟨.inr hx4,?_⟩
  replace hA4:=hA4.ext hx4
  replace hA7:=hA7.ext hx4
  repeat' (refine Q1 ?_;first|refine Q19 ?_|refine Q33 ?_)
  refine Q1 ?_;refine Q7 T.zero171 ?_;intro a13 w5 ha13 hA13 hx5 hs5
  skip
  refine Q1 ?_;refine Q5 T.z171 hA13 ?_;intro w6 hA13 hg6 hs6
  have hx46:Ext w4 w6:=hx5.own hg6 (fun k hk=>by injection hk;omega)
  have hx06:=(hx03.trans hx4).trans hx46
  have hx6d:Ext w w6.drew:=Ext.drew hx06
  replace hA4:Blk w6.drew.heap a4 _ _:=(hA4.ext hx46).ext (Ext.drew Ext.rfl')
  replace hA7:=hA7.ext hx46
  repeat' (first|refine R1 ?_|(refine Q1 ?_;first|(refine Q2 (hu:=by (first|exact T.f386_1|exact T.f386_0)) ?_)|(refine Q3 (hu:=T.p3) ?_))|refine R2 ?_|fail)
  all_goals try (exfalso;omega)
  refine Zl 2 [] (.node [0,2,3,5] (.alt 1 (.leaf [4,6,7]) (.alt 4 (.leaf [1,6,7]) .stop))) mixed (by decide +kernel) ?_
  repeat' (first|refine R1 ?_|(refine Q1 ?_;first|(refine Q4 (f:=263) (hc:=Nw) ?_;rintro _ w7 ⟨rfl,hx7⟩;refine Kc ?_;replace hA4:=hA4.ext (Kx hx7))|(refine Q2 (hu:=T.f310_0) ?_)|(refine Q3 (hu:=T.p259) ?_))|(refine Zj ?_)|(refine Zp ?_)|(apply Zv)|(exact Zq)|fail)
  all_goals
   have hx07:=hx6d.trans hx7
   refine Q1 ?_;refine Q4 (hc:=Mm (ix:=ix) (hM.ext hx07 0) hi hro hk (hp.ext hx07 0) (Mi hs) (by first|omega|decide) (by first|omega|decide) (hV.ext hx07)) ?_;rintro _ w8 ⟨rfl,g8,x8,hS8,hp8,hk8,he8,ht8⟩;refine Kc ?_
   repeat' (first|refine R1 ?_|refine R2 ?_|fail)
   refine Kr Tryz.results260 ?_
   exact ⟨by simp [Cj],_,x8,(Stq.of_ext (ix:=ix) (T:=[7]) hx07 0).trans hS8,hp8,hk8,he8,ht8⟩
 ·repeat' (first|refine R1 ?_|(refine Q1 ?_;first|(refine Q11 T.a310 (hb:=hA4) ?_)|(refine Q4 (f:=374) (hc:=RB (hR.ext hx02) (hV.ext hx02) hn hc hle) ?_;rintro _ w3 ⟨rfl,hx3⟩;refine Kc ?_;replace hA4:=hA4.ext (Kx hx3);replace hA7:=hA7.ext (Kx hx3))|(refine Q2 (hu:=by (first|exact T.f386_1|exact T.f386_2|exact T.f310_0|exact T.f346_0)) ?_)|(refine Q3 (hu:=by (first|exact T.p3|exact T.p259|exact T.p344)) ?_))|refine R2 ?_|fail)
  have hx03:=hx02.trans hx3
  have hV3:=hV.ext hx03
  have hR3:=hR.ext hx03
  repeat' (refine Q1 ?_;first|refine Q19 ?_|(refine Q3 (hu:=T.p344) (hb:=hV3) ?_))
  refine Q1 ?_
  refine Q38 (Gv _ _) (MS hR3) ?_
  rintro _ w4 ⟨r4,ok4,rfl,hx4,_⟩
  refine ⟨.inr hx4,?_⟩
  replace hA4:=hA4.ext hx4
  replace hA7:=hA7.ext hx4
  repeat' (refine Q1 ?_;first|refine Q19 ?_|refine Q33 ?_)
  refine Q1 ?_;refine Q7 T.zero171 ?_;intro a13 w5 ha13 hA13 hx5 hs5
  skip
  refine Q1 ?_;refine Q5 T.z171 hA13 ?_;intro w6 hA13 hg6 hs6
  have hx46:Ext w4 w6:=hx5.own hg6 (fun k hk=>by injection hk;omega)
  have hx06:=(hx03.trans hx4).trans hx46
  have hx6d:Ext w w6.drew:=Ext.drew hx06
  replace hA4:Blk w6.drew.heap a4 _ _:=(hA4.ext hx46).ext (Ext.drew Ext.rfl')
  replace hA7:=hA7.ext hx46
  repeat' (first|refine R1 ?_|(refine Q1 ?_;first|(refine Q2 (hu:=by (first|exact T.f386_1|exact T.f386_0)) ?_)|(refine Q3 (hu:=T.p3) ?_))|refine R2 ?_|fail)
  all_goals try (exfalso;omega)
  refine Zl 2 [] (.node [0,2,3,5] (.alt 1 (.leaf [4,6,7]) (.alt 4 (.leaf [1,6,7]) .stop))) mixed (by decide +kernel) ?_
  repeat' (first|refine R1 ?_|(refine Q1 ?_;first|(refine Q4 (f:=263) (hc:=Nw) ?_;rintro _ w7 ⟨rfl,hx7⟩;refine Kc ?_;replace hA4:=hA4.ext (Kx hx7))|(refine Q2 (hu:=T.f310_0) ?_)|(refine Q3 (hu:=T.p259) ?_))|(refine Zj ?_)|(refine Zp ?_)|(apply Zv)|(exact Zq)|fail)
  all_goals
   have hx07:=hx6d.trans hx7
   refine Q1 ?_;refine Q4 (hc:=Mm (ix:=ix) (hM.ext hx07 0) hi hro hk (hp.ext hx07 0) (Mi hs) (by first|omega|decide) (by first|omega|decide) (hV.ext hx07)) ?_;rintro _ w8 ⟨rfl,g8,x8,hS8,hp8,hk8,he8,ht8⟩;refine Kc ?_
   repeat' (first|refine R1 ?_|refine R2 ?_|fail)
   refine Kr Tryz.results260 ?_
   exact ⟨by simp [Cj],_,x8,(Stq.of_ext (ix:=ix) (T:=[7]) hx07 0).trans hS8,hp8,hk8,he8,ht8⟩
def Hz:ByteArray:=⟨#[83,69,84]⟩
def EW:ByteArray:=⟨#[71,69,84]⟩
def Dh:ByteArray:=⟨#[83,69,84,69,88]⟩
def sOK:ByteArray:=⟨#[79,75]⟩
theorem Rq (w:World):(Instr.build 386 [(0,Value.int .i64 (-1)),(1,Value.int .i64 (-1))].toArray).run Tryz.prog w=.ok (.agg #[.int .i64 (-1),.int .i64 (-1),.int .i64 0]) w:=by kernel_rfl
theorem Ns (w:World):(Instr.build 33 [].toArray).run Tryz.prog w=.ok (.agg (Aq.enc (Av 0 ⟨#[]⟩ 0)).toArray) w:=by kernel_rfl
theorem RA {p:Option Addr} {c:Nat}:Ctr Tryz.prog 373 [.slice p 0 c,.slice q 4 d] w (fun v w'=>v=.tuple #[.agg #[.int .i64 (-1),.int .i64 (-1),.int .i64 0],.int .i64 0]∧Ext w w'):=by
 refine Ac Tryz.func373 Tryz.ntmps373 rfl rfl rfl ?_
 repeat' (refine R1 ?_)
 refine Q1 ?_;refine Q7 T.zero386 ?_;intro a4 w1 ha4 hA4 hx1 hs1
 repeat' (first|refine R1 ?_|(refine Q1 ?_;(apply Zi;exact rfl;exact Rq;exact rfl))|fail)
 refine Q1 ?_;refine Q7 T.zero386 ?_;intro a6 w2 ha6 hA6 hx2 hs2
 replace hA4:=hA4.ext hx2
 skip
 refine Q1 ?_;refine Q5 T.z386 hA6 ?_;intro w3 hA6 hg3 hs3
 replace hA6:Blk w3.heap a6 386 [.int .i64 (-1),.int .i64 (-1),.int .i64 0]:=hA6
 have hA4':=hA4.grown hg3 (fun e=>by injection e;omega)
 repeat' (first|refine R1 ?_|refine R2 ?_|fail)
 refine Zm ?_
 repeat' (first|refine R1 ?_|(refine Q1 ?_;first|(refine Q11 T.a386 (hb:=hA6) ?_)|(refine Q6 (hu:=T.s61) ?_)|(refine Q3 (hu:=T.p3) ?_)|(refine Q2 (hu:=T.f386_1) ?_))|refine R2 ?_|fail)
 all_goals try (exfalso;simp only at *;omega)
 refine Q1 ?_;refine Q5 T.z386 hA4' ?_;intro w4 hA4 hg4 hs4
 replace hA4:Blk w4.heap a4 386 [.int .i64 (-1),.int .i64 (-1),.int .i64 0]:=hA4
 repeat' (first|refine R1 ?_|refine R2 ?_|fail)
 refine Ze Tryz.results373 ⟨_,_,_,rfl,rfl,Ae T.a386 (by assumption) rfl,_,_,rfl,rfl,rfl⟩ ?_
 exact ⟨rfl,(((hx1.trans hx2).own hg3 (fun k hk=>by injection hk;omega))).own hg4 (fun k hk=>by injection hk;omega)⟩
theorem VD {p:Option Addr} {c:Nat} (hM:AL g w m st k clk ts) (hi:ts[i]?=some a) (hro:a.ro=false) (hp:BF g w a.mp none) (hS:Cf g w st ix key vs last mark) (hk:key.size≤256) (hs:s.size≤4096) (hV:Blk w.heap vw 346 [.iface 108 (.pointer (some (adr (bx a.t) 0)))]) (hc:0≤a.clk) :
  Ctr Tryz.prog 259 [.agg #[.pointer (some (adr (bx vw) 0)),.slice q nq d],.string key,.string s,.slice p 0 c] w (fun v w'=>v=.agg (Aq.enc (Av 0 sOK 0)).toArray∧∃g' x,Stq ix [7] g g' w w'∧BF g' w' a.mp (some x)∧x.key=key∧x.exp=0∧x.val.text=s):=by
 refine Ac Tryz.func259 Tryz.ntmps259 rfl rfl rfl ?_
 repeat' (refine R1 ?_)
 refine Q1 ?_;refine Q8 ?_;intro a4 w1 ha4 hA4 hx1 hs1
 replace hA4:Blk w1.heap a4 310 [.pointer (some (adr (bx vw) 0)),.slice q nq d]:=hA4
 skip
 refine Q1 ?_;refine Q7 T.zero33 ?_;intro a8 w2 ha8 hA8 hx2 hs2
 replace hA4:=hA4.ext hx2
 repeat' (refine R1 ?_)
 refine Q1 ?_
 refine Q24 He [0,1,2,3] T.s41 ?_
 intro p3 w3 ho3 hx3 hz3
 replace hA4:=hA4.ext hx3
 repeat' (refine Q1 ?_;first|refine Q19 ?_|(refine Q4 (f:=373) (hc:=RA) ?_;rintro _ w4 ⟨rfl,hx4⟩;refine Kc ?_;replace hA4:=hA4.ext (Kx hx4))|refine Q33 ?_)
 refine Q1 ?_;refine Q7 T.zero386 ?_;intro a9 w5 ha9 hA9 hx5 hs5
 skip
 refine Q1 ?_;refine Q5 T.z386 hA9 ?_;intro w6 hA9 hg6 hs6
 replace hA9:Blk w6.heap a9 386 [.int .i64 (-1),.int .i64 (-1),.int .i64 0]:=hA9
 have hx46:Ext w4 w6:=hx5.own hg6 (fun k hk=>by injection hk;omega)
 have hx26:=(hx3.trans hx4).trans hx46
 have hx06:=(hx1.trans hx2).trans hx26
 replace hA4:=hA4.ext hx46
 have hA8':=hA8.ext hx26
 repeat' (first|refine R1 ?_|(refine Q1 ?_;first|(refine Q11 T.a310 (hb:=hA4) ?_)|(refine Q11 T.a386 (hb:=hA9) ?_))|refine R2 ?_|fail)
 all_goals try (exfalso;simp only at *;omega)
 refine Q1 ?_;refine Q4 (hc:=Qu (ix:=ix) (e:=0) (hM.ext hx06 0) hi hro (hp.ext hx06 0) (hS.ext hx06 0) hk hs (hV.ext hx06) hc (.inl ⟨rfl,rfl,rfl⟩)) ?_;rintro _ w7 ⟨rfl,g7,x7,hS7,hp7,hk7,he7,ht7⟩;refine Kc ?_
 have hB6:Bk (rt g w 0) w6 0 a8 33 _:=Bk.new hA8' (by omega) (by unfold ixT;decide)
 have hB7:=hB6.stp hS7 (by decide)
 have hb7:=hB7.blk
 repeat' (first|refine R1 ?_|(refine Q1 ?_;(refine Q4 (f:=194) (hc:=Gw) ?_;rintro _ w8 ⟨rfl,hx8⟩;refine Kc ?_;replace hb7:=hb7.ext (Kx hx8)))|refine R2 ?_|fail)
 all_goals try (exfalso;simp only at *;omega)
 refine Q1 ?_;refine Q5 T.z33 hb7 ?_;intro w9 hA9' hg9 hs9
 replace hA9':Blk w9.heap a8 33 (Aq.enc (Av 0 sOK 0)):=hA9'
 repeat' (first|refine R1 ?_|refine R2 ?_|fail)
 refine Ze Tryz.results259 ⟨_,_,_,rfl,rfl,Ae T.a33 (by assumption) rfl,rfl⟩ ?_
 have hB8:=hB7.ext hx8 0
 have hS9:=hB8.stpG (T:=[0]) (ix:=ix) hg9 0 (by decide)
 have hS06:Stq ix [7] g (rt g w 0) w w6:=Stq.of_ext hx06 0
 have hS8:=(hS06.trans hS7).trans (Stq.of_ext (ix:=ix) (T:=[7]) hx8 0)
 exact ⟨rfl,_,x7,hS8.own hg9 (by omega) 0,(hp7.ext hx8 0).stp hS9 (by decide),hk7,he7,ht7⟩
theorem ME {F:Nat→Prop} (hR:RdB w t m st ix mp start c0 F key vs last mark) (hV:Blk w.heap vw 346 [.iface 108 (.pointer (some (adr (bx t) 0)))]) (hS:Sl w.heap Ar q d [key]) :
  Ctr Tryz.prog 200 [.agg #[.pointer (some (adr (bx vw) 0)),.slice q 1 d],.string EW] w (fun v w'=>∃r ok,v=.tuple #[.agg (Aq.enc (Dp r)).toArray,.bool true]∧Dv vs start c0 r ok∧Ext w w'):=by
 refine Ac Tryz.func200 Tryz.ntmps200 rfl rfl rfl ?_
 repeat' (refine R1 ?_)
 refine Q1 ?_;refine Q8 ?_;intro a2 w1 ha2 hA2 hx1 hs1
 replace hA2:Blk w1.heap a2 310 [.pointer (some (adr (bx vw) 0)),.slice q 1 d]:=hA2
 skip
 refine Q1 ?_;refine Q7 T.zero33 ?_;intro a4 w2 ha4 hA4 hx2 hs2
 replace hA2:=hA2.ext hx2
 have hx02:=hx1.trans hx2
 have hd:Ext w2 w2.drew:=Ext.drew Ext.rfl'
 have hx0d:=hx02.trans hd
 have hA2d:=hA2.ext hd
 have hA4d:=hA4.ext hd
 have hSd:=hS.ext hx0d
 repeat' (first|refine R1 ?_|(refine Q1 ?_;first|refine Q35 ?_|(refine Q2 (hu:=T.f310_1) ?_)|(refine Q3 (hu:=T.p61) ?_))|refine R2 ?_|fail)
 refine Zl 2 [] (.node [0,1,2,3,4] (.alt 5 (.leaf [6,7,8,9,10,11]) (.alt 9 (.leaf [5,6,7,8,10,11]) .stop))) mixed (by decide +kernel) ?_
 repeat' (first|refine R1 ?_|(refine Q1 ?_;first|(refine Q9 (q:=0) (e:=Ar) (hu:=T.p9) (hs:=hSd) (hq:=(show [key][0]?=some key from rfl)) ?_)|(refine Q4 (f:=251) (hc:=Mo (hR.ext hx0d) (hV.ext hx0d)) ?_;rintro _ w3 ⟨r,ok,rfl,hx3,hSn⟩;refine Kc ?_;replace hA4d:=hA4d.ext (Kx hx3))|(refine Q2 (hu:=T.f310_0) ?_)|(refine Q3 (hu:=T.p259) ?_)|refine Q25 T.s61 ?_)|(refine Zj ?_)|(refine Zp ?_)|(apply Zv)|refine R2 ?_|(exact Zq)|fail)
 ·refine Q1 ?_;refine Q7 T.zero171 ?_;intro a7 w4 ha7 hA7 hx4 hs4
  skip
  refine Q1 ?_;refine Q5 T.z171 hA7 ?_;intro w5 hA7 hg5 hs5
  replace hA7:Blk w5.heap a7 171 (AO.enc r):=hA7
  have hx25:Ext w2 w5:=((hd.trans hx3).trans hx4).own hg5 (fun k hk=>by injection hk;have:=(hd.trans hx3).size;omega)
  have hA45:=hA4.ext hx25
  repeat' (first|refine R1 ?_|(refine Q1 ?_;first|(refine Q11 T.a171 (hb:=hA7) ?_)|(refine Q4 (f:=253) (hc:=Lr) ?_;rintro _ w6 ⟨rfl,hx6⟩;refine Kc ?_;replace hA45:=hA45.ext (Kx hx6))|(refine Q4 (f:=252) (hc:=Ic) ?_;rintro _ w7 ⟨rfl,hx7⟩;refine Kc ?_;replace hA45:=hA45.ext (Kx hx7)))|fail)
  refine Q1 ?_;refine Q5 T.z33 hA45 ?_;intro w8 hA8 hg8 hs8
  replace hA8:Blk w8.heap a4 33 (Aq.enc (Dp r)):=hA8
  repeat' (first|refine R1 ?_|refine R2 ?_|fail)
  refine Ze Tryz.results200 ⟨_,_,_,rfl,rfl,Ae T.a33 (by assumption) rfl,_,_,rfl,rfl,rfl⟩ ?_
  exact ⟨r,ok,rfl,hSn,(((hx02.trans hx25).trans hx6).trans hx7).own hg8 (fun k hk=>by injection hk;omega)⟩
 ·refine Q1 ?_;refine Q7 T.zero171 ?_;intro a7 w4 ha7 hA7 hx4 hs4
  have hx0e:=hx0d.trans hx4
  repeat' (first|refine R1 ?_|(refine Q1 ?_;(refine Q4 (f:=251) (hc:=Mo (hR.ext hx0e) (hV.ext hx0e)) ?_;rintro _ w3 ⟨r,ok,rfl,hx3,hSn⟩;refine Kc ?_;replace hA7:=hA7.ext (Kx hx3)))|(refine Zj ?_)|refine R2 ?_|fail)
  refine Q1 ?_;refine Q5 T.z171 hA7 ?_;intro w5 hA7 hg5 hs5
  replace hA7:Blk w5.heap a7 171 (AO.enc r):=hA7
  have hx25:Ext w2 w5:=((hd.trans hx4).trans hx3).own hg5 (fun k hk=>by injection hk;have:=hd.size;omega)
  have hA45:=hA4.ext hx25
  repeat' (first|refine R1 ?_|(refine Q1 ?_;first|(refine Q11 T.a171 (hb:=hA7) ?_)|(refine Q4 (f:=253) (hc:=Lr) ?_;rintro _ w6 ⟨rfl,hx6⟩;refine Kc ?_;replace hA45:=hA45.ext (Kx hx6))|(refine Q4 (f:=252) (hc:=Ic) ?_;rintro _ w7 ⟨rfl,hx7⟩;refine Kc ?_;replace hA45:=hA45.ext (Kx hx7)))|fail)
  refine Q1 ?_;refine Q5 T.z33 hA45 ?_;intro w8 hA8 hg8 hs8
  replace hA8:Blk w8.heap a4 33 (Aq.enc (Dp r)):=hA8
  repeat' (first|refine R1 ?_|refine R2 ?_|fail)
  refine Ze Tryz.results200 ⟨_,_,_,rfl,rfl,Ae T.a33 (by assumption) rfl,_,_,rfl,rfl,rfl⟩ ?_
  exact ⟨r,ok,rfl,hSn,(((hx02.trans hx25).trans hx6).trans hx7).own hg8 (fun k hk=>by injection hk;omega)⟩
theorem MF:Ctr Tryz.prog 200 [.agg #[.pointer (some (adr (bx vw) 0)),.slice q nq d],.string Hz] w (fun v w'=>v=.tuple #[.agg (Aq.enc (Av 0 ⟨#[]⟩ 0)).toArray,.bool false]∧Ext w w'):=by
 refine Ac Tryz.func200 Tryz.ntmps200 rfl rfl rfl ?_
 repeat' (refine R1 ?_)
 refine Q1 ?_;refine Q8 ?_;intro a2 w1 ha2 hA2 hx1 hs1
 replace hA2:Blk w1.heap a2 310 [.pointer (some (adr (bx vw) 0)),.slice q nq d]:=hA2
 skip
 refine Q1 ?_;refine Q7 T.zero33 ?_;intro a4 w2 ha4 hA4 hx2 hs2
 replace hA2:=hA2.ext hx2
 repeat' (first|refine R1 ?_|(refine Q1 ?_;first|refine Q32 ?_|(apply Zi;exact rfl;exact Ns;exact rfl)|(refine Q2 (hu:=T.f310_1) ?_)|(refine Q3 (hu:=T.p61) ?_))|refine R2 ?_|fail)
 refine Q1 ?_;refine Q5 T.z33 hA4 ?_;intro w3 hA4 hg3 hs3
 replace hA4:Blk w3.heap a4 33 (Aq.enc (Av 0 ⟨#[]⟩ 0)):=hA4
 repeat' (first|refine R1 ?_|refine R2 ?_|fail)
 refine Ze Tryz.results200 ⟨_,_,_,rfl,rfl,Ae T.a33 (by assumption) rfl,_,_,rfl,rfl,rfl⟩ ?_
 exact ⟨rfl,(hx1.trans hx2).own hg3 (fun k hk=>by injection hk;omega)⟩
theorem KR (hM:AL g w m st k clk ts) (hi:ts[i]?=some a) (hro:a.ro=false) (hp:BF g w a.mp none) (hS:Cf g w st ix key vs last mark) (hk:key.size≤256) (hs:s.size≤4096) (hV:Blk w.heap vw 346 [.iface 108 (.pointer (some (adr (bx a.t) 0)))]) (hc:0≤a.clk) (hA:Sl w.heap Ar q d [key,s]) :
  Ctr Tryz.prog 201 [.agg #[.pointer (some (adr (bx vw) 0)),.slice q 2 d],.string Hz] w (fun v w'=>v=.agg (Aq.enc (Av 0 sOK 0)).toArray∧∃g' x,Stq ix [7] g g' w w'∧BF g' w' a.mp (some x)∧x.key=key∧x.exp=0∧x.val.text=s):=by
 have hle:2≤d:=hA.ok.le
 refine Ac Tryz.func201 Tryz.ntmps201 rfl rfl rfl ?_
 repeat' (refine R1 ?_)
 refine Q1 ?_;refine Q8 ?_;intro a2 w1 ha2 hA2 hx1 hs1
 replace hA2:Blk w1.heap a2 310 [.pointer (some (adr (bx vw) 0)),.slice q 2 d]:=hA2
 skip
 refine Q1 ?_;refine Q7 T.zero33 ?_;intro a4 w2 ha4 hA4 hx2 hs2
 replace hA2:=hA2.ext hx2
 have hx02:=hx1.trans hx2
 have hd:Ext w2 w2.drew:=Ext.drew Ext.rfl'
 have hx0d:=hx02.trans hd
 repeat' (first|refine R1 ?_|(refine Q1 ?_;first|refine Q35 ?_|(refine Q2 (hu:=T.f310_1) ?_)|(refine Q3 (hu:=T.p61) ?_))|refine R2 ?_|fail)
 refine Zl 2 [] (.leaf [0,1,2,3,4,5,6,7,8,9,10]) mixed (by decide +kernel) ?_
 have hA2d:=hA2.ext hd
 have hAd:=hA.ext hx0d
 have hok:=hAd.ok
 have hB4:Bk (rt g w 0) w2.drew 0 a4 33 _:=Bk.new (hA4.ext hd) (by omega) (by unfold ixT;decide)
 repeat' (first|(refine Q1 ?_;first|refine Q19 ?_|(refine Q11 T.a310 (hb:=hA2d) ?_)|(refine Q10 T.s61 hAd.ok (q:=0) (hj:=rfl) (h1:=by (simp)) ?_)|(refine Q9 (q:=0) (e:=Ar) (hu:=T.p9) (hs:=hAd) (hq:=(show [key,s][0]?=some key from rfl)) ?_)|(refine Q10 T.s61 hAd.ok (q:=1) (hj:=rfl) (h1:=by (simp)) ?_)|(refine Q9 (q:=1) (e:=Ar) (hu:=T.p9) (hs:=hAd) (hq:=(show [key,s][1]?=some s from rfl)) ?_)|(refine Q18 T.s61 hok (q:=2) ?_))|(refine Zj ?_))
 all_goals
  refine Q1 ?_;refine Q4 (hc:=VD (ix:=ix) (hM.ext hx0d 0) hi hro (hp.ext hx0d 0) (hS.ext hx0d 0) hk hs (hV.ext hx0d) hc) ?_;rintro _ w3 ⟨rfl,g3,x3,hS3,hp3,hk3,he3,ht3⟩;refine Kc ?_
  have hB3:=hB4.stp hS3 (by decide)
  have hb3:=hB3.blk
  skip
  refine Q1 ?_;refine Q5 T.z33 hb3 ?_;intro w4 hA5 hg4 hs4
  replace hA5:Blk w4.heap a4 33 (Aq.enc (Av 0 sOK 0)):=hA5
  repeat' (first|refine R1 ?_|refine R2 ?_|fail)
  refine Ze Tryz.results201 ⟨_,_,_,rfl,rfl,Ae T.a33 (by assumption) rfl,rfl⟩ ?_
  have hS4:=hB3.stpG (T:=[0]) (ix:=ix) hg4 0 (by decide)
  have hS03:=(Stq.of_ext (ix:=ix) (T:=[7]) hx0d 0).trans hS3
  exact ⟨rfl,_,x3,hS03.own hg4 (by omega) 0,hp3.stp hS4 (by decide),hk3,he3,ht3⟩
theorem MI {cap:Array Value} (hc:cap.size=2) {w:World}:JA Tryz.prog 199 cap w :=
 JM Tryz.func199 (by decide) rfl rfl (fun w=>by kernel_rfl) (fun w=>by kernel_rfl) (by rw [hc];decide) (by rw [hc];decide)
theorem JG (vw:Nat) (q:Option Addr) (n d:Nat) (w:World):(Instr.build 310 [(0,Value.pointer (some (adr (bx vw) 0))),(1,Value.slice q n d)].toArray).run Tryz.prog w=.ok (.agg #[.pointer (some (adr (bx vw) 0)),.slice q n d]) w:=by kernel_rfl
set_option maxRecDepth 4000 in
theorem TS {F:Nat→Prop} (hR:RdB w t m st ix mp start c0 F key vs last mark) (hV:Blk w.heap vw 346 [.iface 108 (.pointer (some (adr (bx t) 0)))]) (hS:Sl w.heap Ar q d [key]) :
  Ctr Tryz.prog 138 [.pointer (some (adr (bx vw) 0)),.string EW,.slice q 1 d] w (fun v w'=>∃r ok,v=.tuple #[.agg (Aq.enc (Dp r)).toArray,.bool true]∧Dv vs start c0 r ok∧Ext w w'):=by
 refine Ez Tryz.func138 Tryz.ntmps138 rfl rfl rfl ?_
 repeat' (refine R1 ?_)
 refine Q1 ?_;refine Q7 T.zero33 ?_;intro a6 w1 ha6 hA6 hx1 hs1
 skip
 refine Q1 ?_;refine Q7 T.zero4 ?_;intro a7 w2 ha7 hA7 hx2 hs2
 have hx02:=hx1.trans hx2
 repeat' (first|refine R1 ?_|(refine Q1 ?_;first|refine Q40 ?_|(refine Q4 (f:=198) (hc:=FC) ?_;rintro _ w3 ⟨p3,rfl,hO3,hx3⟩;refine Kc ?_)|(refine Q6 (hu:=T.s305) ?_))|refine R2 ?_|fail)
 have hx03:=hx02.trans hx3
 have hll:AQ.length=23:=by decide
 have hno:∀j,j<6→∀x,AQ[j]?=some x→¬x.1=EW:=by decide
 have hrow:AQ[6]?=some (EW,1,1,1):=by decide
 refine Zh (ι:=Nat) (fun k=>[(DK,.func (.func 199) #[] #[.pointer (some (adr (bx a6) 0)),.pointer (some (adr (bx a7) 0))]),(0,.pointer (some (adr (bx vw) 0))),(1,.string EW),(2,.slice q 1 d),(6,.pointer (some (adr (bx a6) 0))),(7,.pointer (some (adr (bx a7) 0))),(15,.slice p3 AQ.length AQ.length),(16,.int .i64 (AQ.length:Int)),(17,.int .i64 (k:Int))])
  (fun k w'=>Ext w3 w'∧k≤6) (fun k=>6+1 - k) 0 ⟨rfl,rfl,rfl,rfl,rfl,rfl,rfl,rfl,rfl,trivial⟩ ⟨Ext.rfl',Nat.zero_le _⟩ ?_
 rintro k w4 ⟨hx4,hk⟩
 have hS4:=hO3.sl.ext hx4
 obtain ⟨x,hx⟩:=Aj (xs:=AQ) (k:=k) (by omega)
 repeat' (first|(refine Q1 ?_;first|(refine Q14 T.a308 (e:=Cv) (hs:=hS4) (hq:=hx) ?_)|refine Q13 T.s305 ?_)|refine R1 ?_|refine R2 ?_|(apply Za;exact rfl;all_goals (intro h;try (exfalso;omega)))|fail)
 all_goals try (exfalso;omega)
 refine Q1 ?_;refine Q7 T.zero308 ?_;intro a9 w5 ha9 hA9 hx5 hs5
 skip
 refine Q1 ?_;refine Q5 T.z308 hA9 (hl:=Enc.len Cv _) ?_;intro w6 hA9 hg6 hs6
 replace hA9:Blk w6.heap a9 308 (Cv.enc x):=hA9
 have hx46:Ext w4 w6:=hx5.own hg6 (fun k hk=>by injection hk;omega)
 by_cases hlt:k<6
 ·have hne:=hno k hlt x hx
  repeat' (first|refine R1 ?_|(refine Q1 ?_;first|refine Q59 hne ?_|(refine Q2 (hu:=T.f308_0) ?_)|(refine Q3 (hu:=T.p9) ?_))|refine R2 ?_|fail)
  exact Zc (k+1) ⟨rfl,rfl,rfl,rfl,rfl,rfl,rfl,rfl,rfl,trivial⟩ ⟨hx4.trans hx46,by omega⟩ (by omega)
 ·obtain rfl:k=6:=by omega
  obtain rfl:x=(EW,1,1,1):=by rw [hrow] at hx;injection hx with hx;exact hx.symm
  replace hA9:Blk w6.heap a9 308 [.string EW,.int .i64 1,.int .i64 1,.int .i64 1]:=hA9
  have hx06:=(hx03.trans hx4).trans hx46
  have hx26:=(hx3.trans hx4).trans hx46
  have hA7':=hA7.ext hx26
  have hA6':=(hA6.ext hx2).ext hx26
  repeat' (first|refine R1 ?_|(refine Q1 ?_;first|refine Q58 ?_|(apply Zi;exact rfl;exact JG _ _ _ _;exact rfl)|(refine Q6 (hu:=T.s61) ?_)|(refine Q2 (hu:=by (first|exact T.f308_0|exact T.f308_1|exact T.f308_2|exact T.f308_3)) ?_)|(refine Q3 (hu:=by (first|exact T.p9|exact T.p3)) ?_))|refine R2 ?_|fail)
  refine Q1 ?_;refine Q7 T.zero310 ?_;intro a11 w7 ha11 hA11 hx7 hs7
  skip
  refine Q1 ?_;refine Q5 T.z310 hA11 ?_;intro w8 hA11 hg8 hs8
  replace hA11:Blk w8.heap a11 310 [.pointer (some (adr (bx vw) 0)),.slice q 1 d]:=hA11
  have hx68:Ext w6 w8:=hx7.own hg8 (fun k hk=>by injection hk;omega)
  have hx08:=hx06.trans hx68
  repeat' (first|refine R1 ?_|(refine Q1 ?_;first|(refine Q11 T.a310 (hb:=hA11) ?_)|(refine Q4 (f:=200) (hc:=ME (hR.ext hx08) (hV.ext hx08) (hS.ext hx08)) ?_;rintro _ w9 ⟨r,ok,rfl,hSn,hx9⟩;refine Kc ?_;replace hA11:=hA11.ext (Kx hx9)))|refine R2 ?_|fail)
  refine Q1 ?_;refine Q7 T.zero33 ?_;intro a12 w10 ha12 hA12 hx10 hs10
  skip
  refine Q1 ?_;refine Q5 T.z33 hA12 ?_;intro w11 hA12 hg11 hs11
  replace hA12:Blk w11.heap a12 33 (Aq.enc (Dp r)):=hA12
  have hx9_11:Ext w9 w11:=hx10.own hg11 (fun k hk=>by injection hk;omega)
  have hx611:=(hx68.trans hx9).trans hx9_11
  have hx011:=hx06.trans hx611
  have z26:=hx26.size
  have z611:=hx611.size
  have z9:=hx9.size
  have z68:=hx68.size
  have hA6e:=hA6'.ext hx611
  have hA7e:=hA7'.ext hx611
  repeat' (first|refine R1 ?_|(refine Q1 ?_;(refine Q11 T.a33 (hb:=hA12) ?_))|refine R2 ?_|fail)
  refine Q1 ?_;refine Q5 T.z33 hA6e ?_;intro w12 hA6f hg12 hs12
  replace hA6f:Blk w12.heap a6 33 (Aq.enc (Dp r)):=hA6f
  have hA7f:=hA7e.grown hg12 (fun e=>by injection e;omega)
  have hA12f:=hA12.grown hg12 (fun e=>by injection e;omega)
  skip
  refine Q1 ?_;refine Q5 T.z4 hA7f ?_;intro w13 hA7 hg13 hs13
  replace hA7:Blk w13.heap a7 4 [.bool true]:=hA7
  have hA6'':=hA6f.grown hg13 (fun e=>by injection e;omega)
  have hA12g:=hA12f.grown hg13 (fun e=>by injection e;omega)
  have hx013:Ext w w13:=(hx011.own hg12 (fun k hk=>by injection hk;omega)).own hg13 (fun k hk=>by injection hk;omega)
  repeat' (first|refine R1 ?_|refine R2 ?_|fail)
  refine ZE Tryz.results138 rfl (MI rfl) (fun w14 hx14=>?_)
  exact ⟨_,⟨_,_,_,rfl,rfl,Ae T.a33 (hA6''.ext hx14) rfl,_,_,_,rfl,rfl,AU T.p4 (hA7.ext hx14),rfl⟩,r,ok,rfl,hSn,hx013.trans hx14⟩
set_option maxRecDepth 4000 in
theorem Xw (hM:AL g w m st k clk ts) (hi:ts[i]?=some a) (hro:a.ro=false) (hp:BF g w a.mp none) (hS:Cf g w st ix key vs last mark) (hks:key.size≤256) (hs:s.size≤4096) (hV:Blk w.heap vw 346 [.iface 108 (.pointer (some (adr (bx a.t) 0)))]) (hc:0≤a.clk) (hA:Sl w.heap Ar q d [key,s]) :
  Ctr Tryz.prog 138 [.pointer (some (adr (bx vw) 0)),.string Hz,.slice q 2 d] w (fun v w'=>v=.tuple #[.agg (Aq.enc (Av 0 sOK 0)).toArray,.bool true]∧∃g' x,Stq ix [7] g g' w w'∧BF g' w' a.mp (some x)∧x.key=key∧x.exp=0∧x.val.text=s):=by
 refine Ez Tryz.func138 Tryz.ntmps138 rfl rfl rfl ?_
 repeat' (refine R1 ?_)
 refine Q1 ?_;refine Q7 T.zero33 ?_;intro a6 w1 ha6 hA6 hx1 hs1
 skip
 refine Q1 ?_;refine Q7 T.zero4 ?_;intro a7 w2 ha7 hA7 hx2 hs2
 have hx02:=hx1.trans hx2
 repeat' (first|refine R1 ?_|(refine Q1 ?_;first|refine Q40 ?_|(refine Q4 (f:=198) (hc:=FC) ?_;rintro _ w3 ⟨p3,rfl,hO3,hx3⟩;refine Kc ?_)|(refine Q6 (hu:=T.s305) ?_))|refine R2 ?_|fail)
 have hx03:=hx02.trans hx3
 have hll:AQ.length=23:=by decide
 have hno:∀j,j<17→∀x,AQ[j]?=some x→¬x.1=Hz:=by decide
 have hrow:AQ[17]?=some (Hz,2,-1,1):=by decide
 refine Zh (ι:=Nat) (fun k=>[(DK,.func (.func 199) #[] #[.pointer (some (adr (bx a6) 0)),.pointer (some (adr (bx a7) 0))]),(0,.pointer (some (adr (bx vw) 0))),(1,.string Hz),(2,.slice q 2 d),(6,.pointer (some (adr (bx a6) 0))),(7,.pointer (some (adr (bx a7) 0))),(15,.slice p3 AQ.length AQ.length),(16,.int .i64 (AQ.length:Int)),(17,.int .i64 (k:Int))])
  (fun k w'=>Ext w3 w'∧k≤17) (fun k=>17+1 - k) 0 ⟨rfl,rfl,rfl,rfl,rfl,rfl,rfl,rfl,rfl,trivial⟩ ⟨Ext.rfl',Nat.zero_le _⟩ ?_
 rintro k w4 ⟨hx4,hk⟩
 have hS4:=hO3.sl.ext hx4
 obtain ⟨x,hx⟩:=Aj (xs:=AQ) (k:=k) (by omega)
 repeat' (first|(refine Q1 ?_;first|(refine Q14 T.a308 (e:=Cv) (hs:=hS4) (hq:=hx) ?_)|refine Q13 T.s305 ?_)|refine R1 ?_|refine R2 ?_|(apply Za;exact rfl;all_goals (intro h;try (exfalso;omega)))|fail)
 all_goals try (exfalso;omega)
 refine Q1 ?_;refine Q7 T.zero308 ?_;intro a9 w5 ha9 hA9 hx5 hs5
 skip
 refine Q1 ?_;refine Q5 T.z308 hA9 (hl:=Enc.len Cv _) ?_;intro w6 hA9 hg6 hs6
 replace hA9:Blk w6.heap a9 308 (Cv.enc x):=hA9
 have hx46:Ext w4 w6:=hx5.own hg6 (fun k hk=>by injection hk;omega)
 by_cases hlt:k<17
 ·have hne:=hno k hlt x hx
  repeat' (first|refine R1 ?_|(refine Q1 ?_;first|refine Q59 hne ?_|(refine Q2 (hu:=T.f308_0) ?_)|(refine Q3 (hu:=T.p9) ?_))|refine R2 ?_|fail)
  exact Zc (k+1) ⟨rfl,rfl,rfl,rfl,rfl,rfl,rfl,rfl,rfl,trivial⟩ ⟨hx4.trans hx46,by omega⟩ (by omega)
 ·obtain rfl:k=17:=by omega
  obtain rfl:x=(Hz,2,-1,1):=by rw [hrow] at hx;injection hx with hx;exact hx.symm
  replace hA9:Blk w6.heap a9 308 [.string Hz,.int .i64 2,.int .i64 (-1),.int .i64 1]:=hA9
  have hx06:=(hx03.trans hx4).trans hx46
  have hx26:=(hx3.trans hx4).trans hx46
  have hA7':=hA7.ext hx26
  have hA6':=(hA6.ext hx2).ext hx26
  repeat' (first|refine R1 ?_|(refine Q1 ?_;first|refine Q58 ?_|(apply Zi;exact rfl;exact JG _ _ _ _;exact rfl)|(refine Q6 (hu:=T.s61) ?_)|(refine Q2 (hu:=by (first|exact T.f308_0|exact T.f308_1|exact T.f308_2|exact T.f308_3)) ?_)|(refine Q3 (hu:=by (first|exact T.p9|exact T.p3)) ?_))|refine R2 ?_|fail)
  refine Q1 ?_;refine Q7 T.zero310 ?_;intro a11 w7 ha11 hA11 hx7 hs7
  skip
  refine Q1 ?_;refine Q5 T.z310 hA11 ?_;intro w8 hA11 hg8 hs8
  replace hA11:Blk w8.heap a11 310 [.pointer (some (adr (bx vw) 0)),.slice q 2 d]:=hA11
  have hx68:Ext w6 w8:=hx7.own hg8 (fun k hk=>by injection hk;omega)
  have hx08:=hx06.trans hx68
  repeat' (first|refine R1 ?_|(refine Q1 ?_;first|(refine Q11 T.a310 (hb:=hA11) ?_)|(refine Q4 (f:=200) (hc:=MF) ?_;rintro _ w9 ⟨rfl,hx9⟩;refine Kc ?_;replace hA11:=hA11.ext (Kx hx9)))|refine R2 ?_|fail)
  refine Q1 ?_;refine Q7 T.zero33 ?_;intro a12 w10 ha12 hA12 hx10 hs10
  skip
  refine Q1 ?_;refine Q5 T.z33 hA12 ?_;intro w11 hA12 hg11 hs11
  have hx9_11:Ext w9 w11:=hx10.own hg11 (fun k hk=>by injection hk;omega)
  have hx611:=(hx68.trans hx9).trans hx9_11
  have hx011:=hx06.trans hx611
  have z26:=hx26.size
  have z611:=hx611.size
  have hA11':=hA11.ext hx9_11
  have hB6:Bk (rt g w 0) w11 0 a6 33 _:=Bk.new (hA6'.ext hx611) (by omega) (by unfold ixT;decide)
  have hB7:Bk (rt g w 0) w11 0 a7 4 _:=Bk.new (hA7'.ext hx611) (by omega) (by unfold ixT;decide)
  repeat' (first|refine R1 ?_|(refine Q1 ?_;(refine Q11 T.a310 (hb:=hA11') ?_))|refine R2 ?_|fail)
  refine Q1 ?_;refine Q4 (hc:=KR (ix:=ix) (hM.ext hx011 0) hi hro (hp.ext hx011 0) (hS.ext hx011 0) hks hs (hV.ext hx011) hc (hA.ext hx011)) ?_;rintro _ w12 ⟨rfl,g12,x12,hS12,hp12,hk12,he12,ht12⟩;refine Kc ?_
  have hB62:=hB6.stp hS12 (by decide)
  have hB72:=hB7.stp hS12 (by decide)
  have hb62:=hB62.blk
  skip
  refine Q1 ?_;refine Q5 T.z33 hb62 ?_;intro w13 hA6f hg13 hs13
  replace hA6f:Blk w13.heap a6 33 (Aq.enc (Av 0 sOK 0)):=hA6f
  have hS13:=hB62.stpG (T:=[0]) (ix:=ix) hg13 0 (by decide)
  have hb73:=hB72.blk.grown hg13 (fun e=>by injection e;omega)
  have hB63:=hB62.turned (u:=0) hA6f
  have hB73:=hB72.turn hg13 (fun e=>by injection e;omega) 0
  skip
  refine Q1 ?_;refine Q5 T.z4 hb73 ?_;intro w14 hA7f hg14 hs14
  replace hA7f:Blk w14.heap a7 4 [.bool true]:=hA7f
  have hS14:=hB73.stpG (T:=[0]) (ix:=ix) hg14 0 (by decide)
  have hA6g:=hA6f.grown hg14 (fun e=>by injection e;omega)
  repeat' (first|refine R1 ?_|refine R2 ?_|fail)
  refine ZE Tryz.results138 rfl (MI rfl) (fun w15 hx15=>?_)
  have hS012:=(Stq.of_ext (ix:=ix) (T:=[7]) (g:=g) hx011 0).trans hS12
  have hS014:=(hS012.own hg13 (by omega) 0).own hg14 (by omega) 0
  exact ⟨_,⟨_,_,_,rfl,rfl,Ae T.a33 (hA6g.ext hx15) rfl,_,_,_,rfl,rfl,AU T.p4 (hA7f.ext hx15),rfl⟩,rfl,_,x12,hS014.trans (Stq.of_ext (ix:=ix) (T:=[7]) hx15 0),((hp12.stp hS13 (by decide)).stp hS14 (by decide)).ext hx15 0,hk12,he12,ht12⟩
end Go.Proofs.YtkcolpfanmdmiaaGreatDoor
namespace Go.V
open Go.RowKit
def Tn (w:World) (b T c:Nat) (bs:List UInt8):Prop :=
 ∃cur fr,w.heap[b]?=some (.cells cur T fr)∧cur.size≤fr.1∧cur.size=c∧bs.length≤c∧c≤maxLen∧cur.toList.take bs.length=bs.flatMap Ai.enc
theorem MJ (bs:List UInt8):(bs.flatMap Ai.enc).length=bs.length:=by rw [Az];simp [Ai]
theorem Ou {w:World} {b T c:Nat} {bs:List UInt8} {cur:Array Value} {fr:Nat × Nat} (hg:w.heap[b]?=some (.cells cur T fr)) (hl:bs.length≤c) (hm:c≤maxLen) (ht:cur.toList.take bs.length=bs.flatMap Ai.enc):Sl w.heap Ai (some ⟨b,0,none⟩) c bs:=by
 refine ⟨⟨hl,hm,(fun h=>by cases h),(fun a ha _=>by injection ha with ha;rw [← ha])⟩,fun i x hi k v hv=>?_⟩
 have hk:k=0:=by have:=AR hv;rw [Ai.len] at this;simp [Ai] at this;omega
 subst hk
 have hlt:=AR hi
 have hf:(bs.flatMap Ai.enc)[i]?=some v:=by
  have:=flat_get Ai bs i 0 x v hi hv
  simpa [Ai] using this
 rw [← ht,List.getElem?_take,if_pos hlt] at hf
 simp only [hcell,adr,hg,Ai,Nat.zero_add,Nat.mul_one,Nat.add_zero]
 simpa using hf
theorem Tn.sl {w:World} {b T c:Nat} {bs:List UInt8} (h:Tn w b T c bs):Sl w.heap Ai (some ⟨b,0,none⟩) c bs:=by
 obtain ⟨cur,fr,hg,_,_,h1,h2,h3⟩:=h
 exact Ou hg h1 h2 h3
variable {g : Option (Nat × Bool)} {z : Operand} {t' u : Nat}
theorem Q66 (hs:Ap P t) (hu:Ab P t' u 1 by_) (hk:Ao P u .u8) (h:∀b c w',b=w.heap.size→Tn w' b u c s.data.toList→Ext w w'→w'.heap.size=w.heap.size+1→G P n ops dr l (E.put d (.slice (some ⟨b,0,none⟩) s.data.toList.length c)) w' K) (hx:E.look x=some (.string s):=by exact rfl) (hl:s.size≤100000000) (he:Am P dr.1 ⟨d,.convert t t' x,ty,pos,af,g⟩=true:=by exact rfl) (hd:Ah n d=true:=by exact rfl):G1 P n ops dr ⟨d,.convert t t' x,ty,pos,af,g⟩ l E w K:=by
 have hr:=run_bytes_of_string (P:=P) w t t' u s hs hu.1 hk
 have hsz:s.data.toList.length=s.size:=by rw [Array.length_toList];rfl
 have hge:=grownCap_ge w s.size 0 u
 have hcm:grownCap w s.size 0 u≤maxLen:=grownCap_le_maxLen w _ 0 u (by simp only [maxLen];omega)
 have hx':Ext w (w.drew.alloc (.cells (bytesRow s (grownCap w s.size 0 u)) u ((bytesRow s (grownCap w s.size 0 u)).size,(bytesRow s (grownCap w s.size 0 u)).size+1))):=Ext.alloc (Ext.drew Ext.rfl') _
 refine Zs _ _ he hd (fun a ha=>by simp only [execOp,ha.eval hx,Sem.run_bind,hr];rfl) (.inr hx'.toS) ?_
 have h':=h w.heap.size (grownCap w s.size 0 u) _ rfl ?_ hx' (by simp)
 ·rw [hsz] at h';exact h'
 ·refine ⟨_,_,heap_alloc_new w.drew _,Nat.le_refl _,?_,by omega,hcm,?_⟩
  ·have e0:s.data.size=s.size:=rfl
   unfold bytesRow
   simp only [Array.size_append,Array.size_map,Array.size_replicate]
   omega
  ·rw [hsz]
   apply List.ext_getElem?
   intro j
   by_cases hj:j<s.size
   ·rw [List.getElem?_take,if_pos hj]
    have hj':j<s.data.size:=hj
    have e1:=bytesRow_at s (grownCap w s.size 0 u) j hj'
    have e2:(bytesRow s (grownCap w s.size 0 u)).toList[j]?=(bytesRow s (grownCap w s.size 0 u))[j]?:=by simp
    rw [e2,e1]
    have hg:s.data.toList[j]?=some s.data[j]:=by simp []
    have:=flat_get Ai s.data.toList j 0 _ _ hg rfl
    simpa [Ai] using this.symm
   ·rw [List.getElem?_take,if_neg hj,List.getElem?_eq_none (by rw [MJ,hsz];omega)]
def DL:Enc (Nat × Nat):=⟨2,fun x=>[.func (.func x.1) #[] #[],.func (.func x.2) #[] #[]],fun _=>rfl,fun _ v hv=>by simp at hv;rcases hv with rfl|rfl <;> rfl,by decide⟩
end Go.V
namespace Go.Proofs.YtkcolpfanmdmiaaGreatDoor
open Go.V
attribute [local irreducible] Blk Own hcell Ao Ab PlainT Ak Ad Ap Aa Ag EqT Au
theorem T.p205:PlainT Tryz.prog 205:=PlainT.of Tryz.underlying205 rfl
theorem T.p255:PlainT Tryz.prog 255:=PlainT.of Tryz.underlying255 rfl
theorem Qq (f1 f2:Nat) (w:World):(Instr.build 256 [(0,Value.func (.func f1) #[] #[]),(1,Value.func (.func f2) #[] #[])].toArray).run Tryz.prog w=.ok (.agg #[.func (.func f1) #[] #[],.func (.func f2) #[] #[]]) w:=by kernel_rfl
def Ch:List (Nat × Nat):=[(137,138),(139,140),(141,142),(143,144),(145,146),(147,148)]
theorem Vp (m:Nat) (w:World):(Instr.build 190 [(0,Value.pointer (some (adr (bx m) 0)))].toArray).run Tryz.prog w=.ok (.agg #[.pointer (some (adr (bx m) 0)),.pointer none]) w:=by kernel_rfl
theorem WC:Ctr Tryz.prog 54 [.pointer (some (adr (bx m) 0))] w (fun v w'=>∃cl,v=.tuple #[.pointer (some (adr (bx cl) 0)),.int .i64 0]∧w.heap.size≤cl∧Blk w'.heap cl 190 [.pointer (some (adr (bx m) 0)),.pointer none]∧Ext w w'):=by
 refine Ac Tryz.func54 Tryz.ntmps54 rfl rfl rfl ?_
 repeat' (first|refine R1 ?_|(refine Q1 ?_;first|(refine Q15 Tryz.underlying46 (t:=46) ?_)|(apply Zi;exact rfl;exact Vp _;exact rfl))|refine R2 ?_|fail)
 refine Q1 ?_;refine Q8 ?_;intro a1 w1 ha1 hA1 hx1 hs1
 replace hA1:Blk w1.heap a1 190 [.pointer (some (adr (bx m) 0)),.pointer none]:=hA1
 repeat' (first|refine R1 ?_|refine R2 ?_|fail)
 refine Kr Tryz.results54 ?_
 exact ⟨a1,rfl,by omega,hA1,hx1⟩

theorem GK {s:ByteArray} (hs:s.size≤1000) (hno:∀b∈s.data.toList,¬(97≤b.toNat∧b.toNat≤122)):Ctr Tryz.prog 87 [.string s] w (fun v w'=>v=.string s∧Ext w w'):=by
 refine Ac Tryz.func87 Tryz.ntmps87 rfl rfl rfl ?_
 have hsz:s.data.toList.length=s.size:=by rw [Array.length_toList];rfl
 repeat' (refine R1 ?_)
 refine Q1 ?_
 refine Q66 T.str9 T.s40 T.i5 (hl:=by omega) ?_
 intro b c w1 hb hMk hx1 hz1
 have hS:=hMk.sl
 repeat' (first|refine R1 ?_|(refine Q1 ?_;(refine Q6 (hu:=T.s40) ?_))|refine R2 ?_|fail)
 refine Zh (ι:=Nat) (fun k=>[(3,.slice (some ⟨b,0,none⟩) s.data.toList.length c),(8,.slice (some ⟨b,0,none⟩) s.data.toList.length c),(9,.int .i64 (s.data.toList.length:Int)),(10,.int .i64 (k:Int))]) (fun k w'=>w1=w'∧k≤s.data.toList.length) (fun k=>s.data.toList.length - k) 0 ⟨rfl,rfl,rfl,rfl,trivial⟩ ⟨rfl,Nat.zero_le _⟩ ?_
 rintro k _ ⟨rfl,hk⟩
 by_cases hlt:k<s.data.toList.length
 ·obtain ⟨x,hx⟩:=Aj hlt
  have hn:=hno x (List.mem_of_getElem? hx)
  repeat' (first|refine R1 ?_|(refine Q1 ?_;first|(refine Q9 (q:=k) (e:=Ai) (hu:=T.p5) (hs:=hS) (hq:=hx) ?_)|refine Q13 T.s40 ?_)|refine R2 ?_|(apply Za;exact rfl;all_goals (intro h;try (exfalso;omega)))|((fail_if_success (refine Q1 ?_));apply Zb;exact rfl;exact rfl;all_goals (intro h;try (exfalso;omega)))|fail)
  all_goals try (exfalso;omega)
  all_goals exact Zc (k+1) ⟨rfl,rfl,rfl,rfl,trivial⟩ ⟨rfl,by omega⟩ (by omega)
 ·obtain rfl:k=s.data.toList.length:=by omega
  repeat' (first|refine R1 ?_|(refine Q1 ?_;(refine Q30 T.s40 T.i5 T.str9 (bs:=s.data.toList) (hm:=rfl) (hs:=hS) ?_))|refine R2 ?_|(apply Za;exact rfl;all_goals (intro h;try (exfalso;omega)))|fail)
  all_goals try (exfalso;omega)
  refine Kr Tryz.results87 ?_
  exact ⟨congrArg Value.string (Iz s),hx1⟩
theorem OC:Ctr Tryz.prog 88 [.pointer (some (adr (bx cl) 0)),.string ⟨#[83,69,84]⟩] w (fun v w'=>v=.tuple #[.nilFunc,.int .i64 0,.int .i64 0]∧Ext w w'):=by
 refine Ac Tryz.func88 Tryz.ntmps88 rfl rfl rfl ?_
 repeat' (first|refine R1 ?_|(refine Q1 ?_;refine Q32 ?_)|refine R2 ?_|fail)
 refine Kr Tryz.results88 ?_
 exact ⟨rfl,Kz⟩
theorem IE:Ctr Tryz.prog 88 [.pointer (some (adr (bx cl) 0)),.string ⟨#[71,69,84]⟩] w (fun v w'=>v=.tuple #[.nilFunc,.int .i64 0,.int .i64 0]∧Ext w w'):=by
 refine Ac Tryz.func88 Tryz.ntmps88 rfl rfl rfl ?_
 repeat' (first|refine R1 ?_|(refine Q1 ?_;refine Q32 ?_)|refine R2 ?_|fail)
 refine Kr Tryz.results88 ?_
 exact ⟨rfl,Kz⟩
theorem EB {name:ByteArray} (hm:name∈AQ.map (·.1)):Ctr Tryz.prog 90 [.string name] w (fun v w'=>v=.func (.func 138) #[] #[]∧Ext w w'):=by
 have hgl:Ch.length=6:=rfl
 refine Ac Tryz.func90 Tryz.ntmps90 rfl rfl rfl ?_
 repeat' (first|refine R1 ?_|(refine Q1 ?_;(apply Zi;exact rfl;exact Qq _ _;exact rfl))|fail)
 refine Q1 ?_
 refine Q24 DL Ch T.s257 ?_
 intro q w1 ho hx hz
 have hS:=ho.sl
 repeat' (first|refine R1 ?_|(refine Q1 ?_;(refine Q6 (hu:=T.s257) ?_))|refine R2 ?_|fail)
 refine Zm ?_
 have hSa:Sl w1.heap DL q Ch.length Ch:=ho.sl.ext Ext.rfl'
 repeat' (first|(refine Q1 ?_;first|(refine Q10 T.s257 hSa.ok (q:=0) (hj:=rfl) (h1:=by decide) ?_)|(refine Q14 T.a256 (e:=DL) (q:=0) (hs:=hSa) (hq:=(show Ch[0]?=some (137,138) from rfl)) ?_))|refine R1 ?_|refine R2 ?_|fail)
 all_goals try (exfalso;omega)
 refine Q1 ?_;refine Q7 T.zero256 ?_;intro aa ua haa hAa hxaa hsa
 skip
 refine Q1 ?_;refine Q5 T.z256 hAa (hl:=Enc.len DL _) ?_;intro va hAa hga hsva
 replace hAa:Blk va.heap aa 256 [.func (.func 137) #[] #[],.func (.func 138) #[] #[]]:=hAa
 have hxva:Ext w1 va:=hxaa.own hga (fun k hk=>by injection hk;omega)
 repeat' (first|(refine Q1 ?_;first|(refine Q3 (hu:=T.p255) (hb:=hAa) ?_)|(refine Q2 (hu:=T.f256_0) ?_))|refine R1 ?_|fail)
 refine Q1 ?_;refine Q22 (hc:=Kn) ?_;rintro _ ya ⟨qna,cna,rfl,hOna,hxna⟩;refine Kc ?_
 have hBa:=hAa.ext hxna
 have hxya:Ext w1 ya:=hxva.trans hxna
 repeat' (first|refine R1 ?_|(refine Q1 ?_;first|(refine Q4 (f:=149) (hc:=Da hOna.sl) ?_;rintro _ _ ⟨⟨ba,rfl,hba⟩,rfl⟩;refine Kc ?_)|(refine Q3 (hu:=T.p205) (hb:=hBa) ?_)|(refine Q2 (hu:=T.f256_1) ?_))|refine R2 ?_|(apply Zy;exact rfl;all_goals intro h)|fail)
 ·refine Kr Tryz.results90 ?_
  exact ⟨rfl,hx.trans hxya⟩
 ·exfalso
  have:=hba.2 hm
  simp_all
variable {d : Nat}
end Go.Proofs.YtkcolpfanmdmiaaGreatDoor
namespace Go.V
variable {g : Option (Nat × Bool)} {t : TypeId}
theorem La (hu:P.underlying t=some (.pointer u)) (w:World):(Op.equal t (.pointer none) (.pointer none)).run P w=.ok true w:=by
 have key:∀d,(Op.equalIn (d+1) t (.pointer none) (.pointer none)).run P w=.ok true w:=by
  intro d
  rw [Op.equalIn.eq_def]
  simp [run_underlying hu]
 exact key _
theorem Q49 (hu:P.underlying t=some (.pointer u)) (h:G P n ops dr l (E.put d (.bool true)) w K) (hx:E.look x=some (.pointer (some a)):=by exact rfl) (hy:E.look y=some (.pointer none):=by exact rfl) (hd:Ah n d=true:=by exact rfl):G1 P n ops dr ⟨d,.binOp .neq t x y t',ty,pos,af,g⟩ l E w K :=
 Zd _ hd (fun a ha w' _=>by simp [execOp,ha.eval hx,ha.eval hy,eqGuard,binOp,Fq hu]) h
theorem Q63 (hu:P.underlying t=some (.pointer u)) (h:G P n ops dr l (E.put d (.bool false)) w K) (hx:E.look x=some (.pointer none):=by exact rfl) (hy:E.look y=some (.pointer none):=by exact rfl) (hd:Ah n d=true:=by exact rfl):G1 P n ops dr ⟨d,.binOp .neq t x y t',ty,pos,af,g⟩ l E w K :=
 Zd _ hd (fun a ha w' _=>by simp [execOp,ha.eval hx,ha.eval hy,eqGuard,binOp,La hu]) h
end Go.V
namespace Go.Proofs.YtkcolpfanmdmiaaGreatDoor
open Go.V
attribute [local irreducible] Blk Own hcell Ao Ab PlainT Ak Ad Ap Aa Ag EqT Au
variable {ts : List TG} {a : TG} {d : Nat} {x : Wt}
theorem UU (hM:AL g w m st k clk ts) (hi:ts[i]?=some a) (hp:BF g w a.mp none) (hC:Blk w.heap cl 190 [.pointer (some (adr (bx m) 0)),y1]):Ctr Tryz.prog 155 [.pointer (some (adr (bx cl) 0)),.pointer (some (adr (bx a.t) 0))] w (fun v w'=>v=.tuple #[.int .i64 0,.agg (Aq.enc (Av 0 sOK 0)).toArray]∧∃g',Stq ix [4] g g' w w'∧AL g' w' m st k clk (ts.take i++ts.drop (i+1))):=by
 have hT:=hp.txn hM (List.mem_of_getElem? hi)
 refine Ac Tryz.func155 Tryz.ntmps155 rfl rfl rfl ?_
 repeat' (refine R1 ?_)
 refine Q1 ?_;refine Q7 T.zero33 ?_;intro a5 w1 ha5 hA5 hx1 hs1
 have hC1:=hC.ext hx1
 repeat' (first|refine R1 ?_|(refine Q1 ?_;first|(refine Q4 (f:=219) (hc:=Ea (hT.ext hx1)) ?_;rintro _ w2 ⟨p2,c2,xs2,rfl,_,_,_,hx2⟩;refine Kc ?_;replace hC1:=hC1.ext (Kx hx2))|(refine Q2 (hu:=T.f190_0) ?_)|(refine Q3 (hu:=T.p46) ?_))|refine R2 ?_|fail)
 have hx02:=hx1.trans hx2
 refine Q1 ?_;refine Q4 (hc:=NR (ix:=ix) (hM.ext hx02 0) hi (hp.ext hx02 0)) ?_;rintro _ w3 ⟨rfl,g3,hS3,hM3⟩;refine Kc ?_
 have hB5:Bk (rt g w 0) w2 0 a5 33 _:=Bk.new (hA5.ext hx2) (by omega) (by unfold ixT;decide)
 have hB53:=hB5.stp hS3 (by decide)
 have hb53:=hB53.blk
 repeat' (first|refine R1 ?_|(refine Q1 ?_;(refine Q4 (f:=194) (hc:=Gw (s:=sOK)) ?_;rintro _ w4 ⟨rfl,hx4⟩;refine Kc ?_;replace hb53:=hb53.ext (Kx hx4)))|refine R2 ?_|fail)
 all_goals try (exfalso;simp only at *;omega)
 refine Q1 ?_;refine Q5 T.z33 hb53 ?_;intro w5 hA6 hg5 hs5
 replace hA6:Blk w5.heap a5 33 (Aq.enc (Av 0 sOK 0)):=hA6
 repeat' (first|refine R1 ?_|refine R2 ?_|fail)
 refine Ze Tryz.results155 ⟨_,_,rfl,rfl,_,_,_,rfl,rfl,Ae T.a33 (by assumption) rfl,rfl⟩ ?_
 have hB54:=hB53.ext hx4 0
 have hS5:=hB54.stpG (T:=[0]) (ix:=ix) hg5 0 (by decide)
 have hS04:=((Stq.of_ext (ix:=ix) (T:=[4]) (g:=g) hx02 0).trans hS3).trans (Stq.of_ext (ix:=ix) (T:=[4]) hx4 0)
 exact ⟨rfl,_,hS04.own hg5 (by omega) 0,(hM3.ext hx4 0).stp hS5 (by decide) (by decide)⟩
variable {b1 b2 b3 : Nat}

theorem Ls (h1:Blk w.heap b1 205 [.func (.func f) #[] #[]]) (h2:Blk w.heap b2 9 [.string name]) (h3:Blk w.heap b3 61 [.slice q nq dq])
  (hDo:∀w1 vw,Ext w w1→Blk w1.heap vw 346 [.iface 108 (.pointer (some (adr (bx t) 0)))]→Ctr Tryz.prog f [.pointer (some (adr (bx vw) 0)),.string name,.slice q nq dq] w1 (fun v w'=>∃R,v=.tuple #[.agg (Aq.enc R).toArray,.bool true]∧Φ R∧Ext w1 w')) :
  Ctr Tryz.prog 150 [.pointer (some (adr (bx t) 0)),.pointer (some (adr (bx b1) 0)),.pointer (some (adr (bx b2) 0)),.pointer (some (adr (bx b3) 0))] w (fun v w'=>∃R,v=.agg (Aq.enc R).toArray∧Φ R∧Ext w w'):=by
 refine Ac Tryz.func150 Tryz.ntmps150 rfl rfl rfl ?_
 repeat' (refine R1 ?_)
 refine Q1 ?_;refine Q7 T.zero33 ?_;intro a5 w1 ha5 hA5 hx1 hs1
 have h11:=h1.ext hx1
 have h21:=h2.ext hx1
 have h31:=h3.ext hx1
 repeat' (first|refine R1 ?_|(refine Q1 ?_;first|(refine Q61 (hu:=⟨_,Tryz.underlying108,fun ms e=>by cases e⟩) ?_)|(refine Q4 (f:=151) (hc:=OJ) ?_;rintro _ w2 ⟨vw,rfl,_,hV,hx2⟩;refine Kc ?_;replace h11:=h11.ext (Kx hx2);replace h21:=h21.ext (Kx hx2);replace h31:=h31.ext (Kx hx2);replace hA5:=hA5.ext (Kx hx2))|(refine Q3 (hu:=T.p205) (hb:=h11) ?_)|(refine Q3 (hu:=by (first|exact T.p9|exact T.p61)) ?_))|refine R2 ?_|fail)
 all_goals try (exfalso;simp only at *;omega)
 refine Q1 ?_;refine Q22 (hc:=hDo _ vw (hx1.trans hx2) hV) ?_;rintro _ w3 ⟨R,rfl,hR,hx3⟩;refine Kc ?_
 replace hA5:=hA5.ext hx3
 repeat' (refine Q1 ?_;first|refine Q19 ?_|refine Q33 ?_)
 refine Q1 ?_;refine Q7 T.zero33 ?_;intro a8 w4 ha8 hA8 hx4 hs4
 skip
 refine Q1 ?_;refine Q5 T.z33 hA8 ?_;intro w5 hA8 hg5 hs5
 replace hA8:Blk w5.heap a8 33 (Aq.enc R):=hA8
 have hx35:Ext w3 w5:=hx4.own hg5 (fun k hk=>by injection hk;omega)
 have hx05:=((hx1.trans hx2).trans hx3).trans hx35
 have z23:=(hx2.trans hx3).size
 replace hA5:=hA5.ext hx35
 repeat' (first|refine R1 ?_|(refine Q1 ?_;(refine Q11 T.a33 (hb:=hA8) ?_))|fail)
 refine Q1 ?_;refine Q5 T.z33 hA5 ?_;intro w6 hA6 hg6 hs6
 replace hA6:Blk w6.heap a5 33 (Aq.enc R):=hA6
 have hA8':=hA8.grown hg6 (fun e=>by injection e;omega)
 repeat' (first|refine R1 ?_|refine R2 ?_|fail)
 refine Ze Tryz.results150 ⟨_,_,_,rfl,rfl,Ae T.a33 (by assumption) rfl,rfl⟩ ?_
 exact ⟨R,rfl,hR,hx05.own hg6 (fun k hk=>by injection hk;omega)⟩

theorem Pd {R:Bg} {Ψ:Wt→Prop} (h1:Blk w.heap b1 205 [.func (.func f) #[] #[]]) (h2:Blk w.heap b2 9 [.string name]) (h3:Blk w.heap b3 61 [.slice q nq dq]) (hM:AL g w m st k clk ts) (hp:BF g w a.mp none) (hS:Cf g w st ix key vs last mark)
  (hDo:∀g1 w1 vw,Ext w w1→AL g1 w1 m st k clk ts→BF g1 w1 a.mp none→Cf g1 w1 st ix key vs last mark→Blk w1.heap vw 346 [.iface 108 (.pointer (some (adr (bx a.t) 0)))]→Ctr Tryz.prog f [.pointer (some (adr (bx vw) 0)),.string name,.slice q nq dq] w1 (fun v w'=>v=.tuple #[.agg (Aq.enc R).toArray,.bool true]∧∃g' x,Stq ix [7] g1 g' w1 w'∧BF g' w' a.mp (some x)∧Ψ x)) :
  Ctr Tryz.prog 150 [.pointer (some (adr (bx a.t) 0)),.pointer (some (adr (bx b1) 0)),.pointer (some (adr (bx b2) 0)),.pointer (some (adr (bx b3) 0))] w (fun v w'=>v=.agg (Aq.enc R).toArray∧∃g' x,Stq ix [7] g g' w w'∧BF g' w' a.mp (some x)∧Ψ x):=by
 refine Ac Tryz.func150 Tryz.ntmps150 rfl rfl rfl ?_
 repeat' (refine R1 ?_)
 refine Q1 ?_;refine Q7 T.zero33 ?_;intro a5 w1 ha5 hA5 hx1 hs1
 have h11:=h1.ext hx1
 have h21:=h2.ext hx1
 have h31:=h3.ext hx1
 repeat' (first|refine R1 ?_|(refine Q1 ?_;first|(refine Q61 (hu:=⟨_,Tryz.underlying108,fun ms e=>by cases e⟩) ?_)|(refine Q4 (f:=151) (hc:=OJ) ?_;rintro _ w2 ⟨vw,rfl,_,hV,hx2⟩;refine Kc ?_;replace h11:=h11.ext (Kx hx2);replace h21:=h21.ext (Kx hx2);replace h31:=h31.ext (Kx hx2);replace hA5:=hA5.ext (Kx hx2))|(refine Q3 (hu:=T.p205) (hb:=h11) ?_)|(refine Q3 (hu:=by (first|exact T.p9|exact T.p61)) ?_))|refine R2 ?_|fail)
 all_goals try (exfalso;simp only at *;omega)
 have hx02:=hx1.trans hx2
 have z02:=hx1.size
 have hB5:Bk (rt g w 0) w2 0 a5 33 _:=Bk.new hA5 (by omega) (by unfold ixT;decide)
 refine Q1 ?_;refine Q22 (hc:=hDo _ _ vw hx02 (hM.ext hx02 0) (hp.ext hx02 0) (hS.ext hx02 0) hV) ?_;rintro _ w3 ⟨rfl,g3,x3,hS3,hp3,hΨ⟩;refine Kc ?_
 have hB53:=hB5.stp hS3 (by decide)
 repeat' (refine Q1 ?_;first|refine Q19 ?_|refine Q33 ?_)
 refine Q1 ?_;refine Q7 T.zero33 ?_;intro a8 w4 ha8 hA8 hx4 hs4
 skip
 refine Q1 ?_;refine Q5 T.z33 hA8 ?_;intro w5 hA8 hg5 hs5
 replace hA8:Blk w5.heap a8 33 (Aq.enc R):=hA8
 have hx35:Ext w3 w5:=hx4.own hg5 (fun k hk=>by injection hk;omega)
 have hB55:=hB53.ext hx35 0
 have hb55:=hB55.blk
 have z3:=hB53.lt
 repeat' (first|refine R1 ?_|(refine Q1 ?_;(refine Q11 T.a33 (hb:=hA8) ?_))|fail)
 refine Q1 ?_;refine Q5 T.z33 hb55 ?_;intro w6 hA6 hg6 hs6
 replace hA6:Blk w6.heap a5 33 (Aq.enc R):=hA6
 have hA8':=hA8.grown hg6 (fun e=>by injection e;omega)
 repeat' (first|refine R1 ?_|refine R2 ?_|fail)
 refine Ze Tryz.results150 ⟨_,_,_,rfl,rfl,Ae T.a33 (by assumption) rfl,rfl⟩ ?_
 have hS6:=hB55.stpG (T:=[0]) (ix:=ix) hg6 0 (by decide)
 have hS05:=((Stq.of_ext (ix:=ix) (T:=[7]) (g:=g) hx02 0).trans hS3).trans (Stq.of_ext (ix:=ix) (T:=[7]) hx35 0)
 exact ⟨rfl,_,x3,hS05.own hg6 (by omega) 0,(hp3.ext hx35 0).stp hS6 (by decide),hΨ⟩
structure SlT {α:Type} (g:Nat→Nat) (w:World) (j:Nat) (e:Enc α) (p:Option Addr) (c:Nat) (xs:List α):Prop where
 sl:Sl w.heap e p c xs
 tag:∀a,p=some a→a.block<w.heap.size∧g a.block=j∧¬IxB w a.block
theorem SlT.stp {α:Type} {e:Enc α} {ix j:Nat} {T:List Nat} {g g':Nat→Nat} {w w':World} {p:Option Addr} {c:Nat} {xs:List α} (h:SlT g w j e p c xs) (s:Stq ix T g g' w w') (hj:j ∉ T):SlT g' w' j e p c xs:=by
 have hb:∀a,p=some a→w'.heap[a.block]?=w.heap[a.block]?:=fun a ha=>by
  obtain ⟨h1,h2,h3⟩:=h.tag a ha
  exact s.block _ h1 (fun e=>absurd e.2 h3) (fun _=>by rw [h2];exact hj)
 refine ⟨⟨h.sl.ok,fun i x hi k v hv=>?_⟩,fun a ha=>?_⟩
 ·have hc:=h.sl.cell i x hi k v hv
  cases p with
  | none=>have:=h.sl.ok.nul rfl;have:=h.sl.ok.le;have:=AR hi;omega
  | some a=>exact (BI (a:=adr (some a) _) (hb a rfl)).trans hc
 ·obtain ⟨h1,h2,h3⟩:=h.tag a ha
  exact ⟨Nat.lt_of_lt_of_le h1 s.size,by rw [s.tags _ h1];exact h2,fun e=>h3 (by unfold IxB at *;rw [← hb a ha];exact e)⟩
theorem SlT.ext {α:Type} {e:Enc α} {j:Nat} {g:Nat→Nat} {w w':World} {p:Option Addr} {c:Nat} {xs:List α} (h:SlT g w j e p c xs) (hx:Ext w w') (u:Nat):SlT (rt g w u) w' j e p c xs:=h.stp (ix:=0) (T:=[]) (Stq.of_ext hx u) (by simp)
theorem Lu (hC:Bk g w j cl 190 [.pointer (some (adr (bx m) 0)),.pointer none]) (hj4:j ∉ [4]) (hM:AL g w m st k clk ts) (hl:ts.length≤8) (hS:Cf g w st ix key vs last mark) (hA:SlT g w jw Ar q dq xs) (hjw:jw ∉ [1,2,3,4,7]) (hk:key.size≤256) (hΦ:∀R,Φ R→R.kind≠1)
  (hDo:∀w1 t mp vw F,RdB w1 t m st ix mp last clk F key vs last mark→Blk w1.heap vw 346 [.iface 108 (.pointer (some (adr (bx t) 0)))]→Sl w1.heap Ar q dq xs→Ctr Tryz.prog f [.pointer (some (adr (bx vw) 0)),.string name,.slice q xs.length dq] w1 (fun v w'=>∃R,v=.tuple #[.agg (Aq.enc R).toArray,.bool true]∧Φ R∧Ext w1 w')) :
  Ctr Tryz.prog 91 [.pointer (some (adr (bx cl) 0)),.func (.func f) #[] #[],.string name,.slice q xs.length dq] w (fun v w'=>∃R,v=.agg (Aq.enc R).toArray∧Φ R∧∃g',Stq ix [4] g g' w w'∧AL g' w' m st k clk ts):=by
 refine Ac Tryz.func91 Tryz.ntmps91 rfl rfl rfl ?_
 repeat' (refine R1 ?_)
 refine Q1 ?_;refine Q8 ?_;intro b5 w1 hb5 hB5 hx1 hs1
 replace hB5:Blk w1.heap b5 205 [.func (.func f) #[] #[]]:=hB5
 skip
 refine Q1 ?_;refine Q8 ?_;intro b6 w2 hb6 hB6 hx2 hs2
 replace hB6:Blk w2.heap b6 9 [.string name]:=hB6
 skip
 refine Q1 ?_;refine Q8 ?_;intro b7 w3 hb7 hB7 hx3 hs3
 replace hB7:Blk w3.heap b7 61 [.slice q xs.length dq]:=hB7
 skip
 refine Q1 ?_;refine Q7 T.zero33 ?_;intro a8 w4 ha8 hA8 hx4 hs4
 have hx24:=(hx2.trans hx3).trans hx4
 have hx04:=hx1.trans hx24
 have hC4:=hC.ext hx04 0
 have hc4:=hC4.blk
 have hM4:=hM.ext hx04 0
 have hK5:Bk (rt g w 0) w4 0 b5 205 _:=Bk.new (hB5.ext hx24) (by omega) (by unfold ixT;decide)
 have hK6:Bk (rt g w 0) w4 0 b6 9 _:=Bk.new (hB6.ext (hx3.trans hx4)) (by omega) (by unfold ixT;decide)
 have hK7:Bk (rt g w 0) w4 0 b7 61 _:=Bk.new (hB7.ext hx4) (by omega) (by unfold ixT;decide)
 have hK8:Bk (rt g w 0) w4 0 a8 33 _:=Bk.new hA8 (by omega) (by unfold ixT;decide)
 have hA4:=hA.ext hx04 0
 repeat' (first|refine R1 ?_|(refine Q1 ?_;first|refine Q63 Tryz.underlying108 ?_|(refine Q2 (hu:=by (first|exact T.f190_1|exact T.f190_0)) ?_)|(refine Q3 (hu:=by (first|exact T.p108|exact T.p46)) ?_))|refine R2 ?_|fail)
 refine Q1 ?_;refine Q4 (hc:=Ho (ix:=ix) hM4 (by omega) (hS.ext hx04 0)) ?_;rintro _ w5 ⟨t,mp,g5,rfl,hS5,hM5,hp5,_,_⟩;refine Kc ?_
 have hs5:=(hS.ext hx04 0).stp hS5 (by decide)
 have hK55:=hK5.stp hS5 (by decide)
 have hK65:=hK6.stp hS5 (by decide)
 have hK75:=hK7.stp hS5 (by decide)
 have hK85:=hK8.stp hS5 (by decide)
 have hC5:=hC4.stp hS5 hj4
 have z85:=hK85.lt
 have hA5:=hA4.stp hS5 (by simp at hjw ⊢;omega)
 have hi5:(ts++[(⟨t,(last:Int),clk,false,mp⟩:TG)])[ts.length]?=some ⟨t,(last:Int),clk,false,mp⟩:=by simp
 repeat' (first|refine R1 ?_|refine R2 ?_|fail)
 all_goals try (exfalso;simp only at *;omega)
 obtain ⟨F,hR5⟩:=PW hM5 hi5 hp5 hs5 hk
 refine Q1 ?_;refine Q22 (hc:=Ls hK55.blk hK65.blk hK75.blk (fun w1 vw hx hv=>hDo w1 t mp vw F (hR5.ext hx) hv (hA5.sl.ext hx))) ?_;rintro _ w6 ⟨R,rfl,hR,hx6⟩;refine Kc ?_
 have hkind:=hΦ R hR
 skip
 refine Q1 ?_;refine Q7 T.zero33 ?_;intro a12 w7 ha12 hA12 hx7 hs7
 skip
 refine Q1 ?_;refine Q5 T.z33 hA12 ?_;intro w8 hA12 hg8 hs8
 replace hA12:Blk w8.heap a12 33 (Aq.enc R):=hA12
 have hx68:Ext w6 w8:=hx7.own hg8 (fun k hk=>by injection hk;omega)
 have hx58:=hx6.trans hx68
 have z56:=hx6.size
 have hK88:=hK85.ext hx58 0
 have hK128:Bk (rt g5 w5 0) w8 0 a12 33 _:=Bk.new hA12 (by omega) (by unfold ixT;decide)
 repeat' (first|refine R1 ?_|(refine Q1 ?_;first|(refine Q2 (hu:=T.f33_0) ?_)|(refine Q3 (hu:=T.p3) ?_))|refine R2 ?_|(apply Za;exact rfl;all_goals (intro h;try (exfalso;omega)))|fail)
 all_goals try (exfalso;omega)
 refine Q1 ?_;refine Q4 (hc:=UU (ix:=ix) (hM5.ext hx58 0) hi5 (hp5.ext hx58 0) (hC5.ext hx58 0).blk) ?_;rintro _ w9 ⟨rfl,g9,hS9,hM9⟩;refine Kc ?_
 have hS04:Stq ix [4] g (rt g w 0) w w4:=Stq.of_ext hx04 0
 have hS09:=((hS04.trans hS5).trans (Stq.of_ext (ix:=ix) (T:=[4]) hx58 0)).trans hS9
 have hK89:=hK88.stp hS9 (by decide)
 have hK129:=hK128.stp hS9 (by decide)
 repeat' (refine Q1 ?_;first|refine Q19 ?_|refine Q33 ?_)
 refine Q1 ?_;refine Q7 T.zero33 ?_;intro a14 w10 ha14 hA14 hx10 hs10
 repeat' (refine Q1 ?_;refine Q39 ?_)
 refine Q1 ?_;refine Q5 T.z33 hA14 ?_;intro w11 hA14 hg11 hs11
 replace hA14:Blk w11.heap a14 33 (Aq.enc (Av 0 sOK 0)):=hA14
 have hx911:Ext w9 w11:=hx10.own hg11 (fun k hk=>by injection hk;omega)
 have hK811:=hK89.ext hx911 0
 have hb811:=hK811.blk
 have hb1211:=(hK129.ext hx911 0).blk
 repeat' (first|(refine Q1 ?_;first|(refine Q11 T.a33 (hb:=hb1211) ?_)|(refine Q2 (hu:=T.f33_0) ?_)|(refine Q3 (hu:=T.p3) ?_))|refine R1 ?_|refine R2 ?_|fail)
 all_goals try (exfalso;simp only at *;omega)
 refine Q1 ?_;refine Q5 T.z33 hb811 ?_;intro w12 hA8' hg12 hs12
 replace hA8':Blk w12.heap a8 33 (Aq.enc (R)):=hA8'
 have hb1212:=hb1211.grown hg12 (fun e=>by injection e;omega)
 repeat' (first|refine R1 ?_|refine R2 ?_|fail)
 refine Ze Tryz.results91 ⟨_,_,_,rfl,rfl,Ae T.a33 (by assumption) rfl,rfl⟩ ?_
 have hS12:=hK811.stpG (T:=[0]) (ix:=ix) hg12 0 (by decide)
 have z03:=((hx1.trans hx2).trans hx3).size
 have hts:(ts++[(⟨t,(last:Int),clk,false,mp⟩:TG)]).take ts.length++(ts++[(⟨t,(last:Int),clk,false,mp⟩:TG)]).drop (ts.length+1)=ts:=by simp
 rw [hts] at hM9
 exact ⟨R,rfl,hR,_,(hS09.trans (Stq.of_ext (ix:=ix) (T:=[4]) hx911 0)).own hg12 (by omega) 0,(hM9.ext hx911 0).stp hS12 (by decide) (by decide)⟩
end Go.Proofs.YtkcolpfanmdmiaaGreatDoor
namespace Go.V
variable {g : Option (Nat × Bool)} {t : TypeId} {f : Fn} {c1 c2 : Array Value} {p1 p2 : Array TypeId} {vr : Bool}
theorem Fp (hu:P.underlying t=some (.func p1 p2 vr)) (w:World):(Op.equal t (.func f c1 c2) .nilFunc).run P w=.ok false w:=by
 have key:∀d,(Op.equalIn (d+1) t (.func f c1 c2) .nilFunc).run P w=.ok false w:=by
  intro d
  rw [Op.equalIn.eq_def]
  simp [run_underlying hu]
 exact key _
theorem KY (hu:P.underlying t=some (.func p1 p2 vr)) (w:World):(Op.equal t .nilFunc .nilFunc).run P w=.ok true w:=by
 have key:∀d,(Op.equalIn (d+1) t .nilFunc .nilFunc).run P w=.ok true w:=by
  intro d
  rw [Op.equalIn.eq_def]
  simp [run_underlying hu]
 exact key _
theorem Q102 (hu:P.underlying t=some (.func p1 p2 vr)) (hx:E.look x=some .nilFunc) (hy:E.look y=some .nilFunc) (hd:Ah n d=true) (h:G P n ops dr l (E.put d (.bool false)) w K):G1 P n ops dr ⟨d,.binOp .neq t x y t',ty,pos,af,g⟩ l E w K :=
 Zd _ hd (fun a ha w' _=>by simp [execOp,ha.eval hx,ha.eval hy,eqGuard,binOp,KY hu]) h
theorem Q101 (hu:P.underlying t=some (.func p1 p2 vr)) (hx:E.look x=some (.func f c1 c2)) (hy:E.look y=some .nilFunc) (hd:Ah n d=true) (h:G P n ops dr l (E.put d (.bool false)) w K):G1 P n ops dr ⟨d,.binOp .eql t x y t',ty,pos,af,g⟩ l E w K :=
 Zd _ hd (fun a ha w' _=>by simp [execOp,ha.eval hx,ha.eval hy,eqGuard,binOp,Fp hu]) h
end Go.V
namespace Go.Proofs.YtkcolpfanmdmiaaGreatDoor
open Go.V
attribute [local irreducible] Blk Own hcell Ao Ab PlainT Ak Ad Ap Aa Ag EqT Au
variable {ts : List TG} {a : TG} {d : Nat}
theorem SlT.drop {α:Type} {e:Enc α} {g:Nat→Nat} {w:World} {j:Nat} {p:Option Addr} {c:Nat} {xs:List α} (h:SlT g w j e p c xs) {m:Nat} (hm:m≤xs.length):SlT g w j e (AP p c m e.sz) (c - m) (xs.drop m) :=
 ⟨h.sl.drop (Nat.le_trans hm h.sl.ok.le),fun a ha=>by
  unfold AP at ha
  split at ha
  ·exact h.tag a ha
  ·cases p with
   | none=>simp at ha
   | some b=>simp [Addr.add] at ha;subst ha;have:=h.tag b rfl;split <;> exact this⟩
variable {fb : Nat} {U : List Nat} {Ψ : Bg → (Nat → Nat) → World → Prop}
theorem Ia (hst:∀R g1 w1 g2 w2,Ψ R g1 w1→Stq ix [0] g1 g2 w1 w2→Ψ R g2 w2) (h0U:0 ∉ U) (hC:Blk w.heap cl 190 [.pointer (some (adr (bx m) 0)),y1]) (hA:SlT g w jw Ar q dq (name :: xs)) (hn:name.size≤1000) (hno:∀b∈name.data.toList,¬(97≤b.toNat∧b.toNat≤122))
  (hown:∀w1,Ctr Tryz.prog 88 [.pointer (some (adr (bx cl) 0)),.string name] w1 (fun v w'=>v=.tuple #[.nilFunc,.int .i64 0,.int .i64 0]∧Ext w1 w'))
  (hgrp:∀w1,Ctr Tryz.prog 90 [.string name] w1 (fun v w'=>v=.func (.func f) #[] #[]∧Ext w1 w'))
  (hdata:∀w1 q' d',Ext w w1→SlT (rt g w 0) w1 jw Ar q' d' xs→Ctr Tryz.prog 91 [.pointer (some (adr (bx cl) 0)),.func (.func f) #[] #[],.string name,.slice q' xs.length d'] w1 (fun v w'=>∃R,v=.agg (Aq.enc R).toArray∧∃g',Stq ix U (rt g w 0) g' w1 w'∧Ψ R g' w')) :
  Ctr Tryz.prog 58 [.pointer (some (adr (bx cl) 0)),.slice q (name :: xs).length dq] w (fun v w'=>∃R,v=.tuple #[.agg (Aq.enc R).toArray,.bool false]∧∃g',Stq ix U g g' w w'∧Ψ R g' w'):=by
 refine Ac Tryz.func58 Tryz.ntmps58 rfl rfl rfl ?_
 repeat' (refine R1 ?_)
 refine Q1 ?_;refine Q7 T.zero33 ?_;intro a4 w1 ha4 hA4 hx1 hs1
 have hC1:=hC.ext hx1
 have hS1:=hA.sl.ext hx1
 repeat' (first|refine R1 ?_|(refine Q1 ?_;first|(refine Q15 Tryz.underlying125 (t:=125) ?_)|(refine Q15 Tryz.underlying46 (t:=46) ?_)|(refine Q2 (hu:=T.f190_0) ?_)|(refine Q3 (hu:=T.p46) ?_)|(refine Q6 (hu:=T.s61) ?_))|refine R2 ?_|refine Zf 1 [] [0,1,2,4,5,3,6,7] mixed (by decide +kernel) ?_|fail)
 all_goals try (exfalso;simp only [List.length_cons] at *;omega)
 have hA1:=hA.ext hx1 0
 have hK4:Bk (rt g w 0) w1 0 a4 33 _:=Bk.new hA4 (by omega) (by unfold ixT;decide)
 have hgt:(name :: xs)[0]?=some name:=rfl
 repeat' (first|refine R1 ?_|(refine Q1 ?_;first|(refine Q10 T.s61 hS1.ok (q:=0) (hj:=rfl) (h1:=by (simp)) ?_)|(refine Q9 (q:=0) (e:=Ar) (hu:=T.p9) (hs:=hS1) (hq:=hgt) ?_)|(refine Q4 (f:=87) (hc:=GK hn hno) ?_;rintro _ w2 ⟨rfl,hx2⟩;refine Kc ?_;replace hC1:=hC1.ext (Kx hx2))|(refine Q18 T.s61 hS1.ok (q:=1) (hq:=by (simp)) ?_))|fail)
 replace hx2:=(Ext.drew Ext.rfl').trans hx2
 refine Q1 ?_;refine Q4 (hc:=hown w2) ?_;rintro _ w3 ⟨rfl,hx3⟩;refine Kc ?_
 repeat' (first|refine R1 ?_|(refine Q1 ?_;(refine Q102 Tryz.underlying200 rfl rfl rfl (t:=200) ?_))|refine R2 ?_|fail)
 all_goals try (exfalso;simp only at *;omega)
 refine Q1 ?_;refine Q4 (hc:=hgrp w3) ?_;rintro _ w4 ⟨rfl,hx4⟩;refine Kc ?_
 have hx24:=hx3.trans hx4
 have hx14:=hx2.trans hx24
 repeat' (first|refine R1 ?_|(refine Q1 ?_;(refine Q101 Tryz.underlying205 rfl rfl rfl (t:=205) ?_))|refine R2 ?_|fail)
 all_goals try (exfalso;simp only at *;omega)
 have hA4:SlT (rt g w 0) w4 jw Ar (AP q dq 1 1) (dq - 1) xs:=((hA1.drop (m:=1) (by simp)).stp (ix:=ix) (T:=[]) (Stq.of_ext' hx14) (by simp))
 refine Q1 ?_;refine Q4 (hc:=hdata w4 _ _ (hx1.trans hx14) hA4) ?_;rintro _ w5 ⟨R,rfl,g5,hS5,hΨ⟩;refine Kc ?_
 have hK48:=(hK4.ext' hx14).stp hS5 h0U
 have hb48:=hK48.blk
 skip
 refine Q1 ?_;refine Q5 T.z33 hb48 ?_;intro wz hbz hgz hsz
 replace hbz:Blk wz.heap a4 33 (Aq.enc R):=hbz
 repeat' (first|refine R1 ?_|refine R2 ?_|fail)
 refine Ze Tryz.results58 ⟨_,_,_,rfl,rfl,Ae T.a33 (by assumption) rfl,_,_,rfl,rfl,rfl⟩ ?_
 have hSz:=hK48.stpG (T:=[0]) (ix:=ix) hgz 0 (by decide)
 exact ⟨R,rfl,_,((Stq.of_ext (ix:=ix) (T:=U) (g:=g) (hx1.trans hx14) 0).trans hS5).own hgz (by omega) 0,hst _ _ _ _ _ hΨ hSz⟩
def dec (n:Nat):List UInt8:=Lib.itoa (n:Int)
theorem Xv (n:Nat):dec n=Lib.decDigits n:=by
 unfold dec Lib.itoa
 rw [if_neg (by omega),Int.toNat_natCast]
theorem NA {n:Nat}:∀c∈dec n,c≠10:=by
 intro c hc e
 rw [Xv] at hc
 have:=FU n c hc
 rw [e] at this
 simp at this
theorem Ee {n:Nat} (h:n≤1000000000):(dec n).length≤20:=by
 have:=Ex (n:=(n:Int)) (by unfold AC;omega)
 rw [Di,CB] at this
 exact this
theorem Qy {n:Nat} (h:n≤1000000000):numOf (dec n)=some (n:Int):=Fe (by unfold AC;omega)
theorem Ko:∀{s:List UInt8} (m:List UInt8),(∀c∈s,c≠10)→BJ (s++10 :: m)=s.length
 | [],m,_=>by simp [BJ]
 | b :: s,m,h=>by
  rw [List.cons_append]
  unfold BJ
  rw [if_neg (h b (by simp)),Ko m (fun c hc=>h c (by simp [hc])),List.length_cons]
theorem QG {s:List UInt8} (m:List UInt8) (h:∀c∈s,c≠10) (hl:s.length≤1024):Dn (s++13 :: 10 :: m)=.ok s (s.length+2):=by
 have e1:s++13 :: 10 :: m=(s++[13])++10 :: m:=by simp
 have e2:BJ (s++13 :: 10 :: m)=s.length+1:=by
  rw [e1,Ko m (fun c hc=>by
   rcases List.mem_append.1 hc with hc|hc
   ·exact h c hc
   ·rw [List.mem_singleton.1 hc];decide)]
  simp
 unfold Dn
 rw [e2,if_pos ⟨by simp,by omega⟩]
 have e3:(s++13 :: 10 :: m).getD (s.length+1 - 1) 0=13:=by
  rw [List.getD_eq_getElem?_getD,Nat.add_sub_cancel,List.getElem?_append_right (Nat.le_refl _),Nat.sub_self]
  rfl
 rw [e3,if_neg (by simp),Nat.add_sub_cancel,List.take_left' rfl]
theorem SL {n:Nat} (m:List UInt8) (h1:1≤n) (h2:n≤128):Bf rs0 ((42 :: dec n)++13 :: 10 :: m)=.go ⟨n,-1,[],(dec n).length+3⟩ ((dec n).length+3) []:=by
 have hd:=Ee (n:=n) (by omega)
 have hl:=QG m (s:=42 :: dec n) (fun c hc=>by
  rcases List.mem_cons.1 hc with hc|hc
  ·rw [hc];decide
  ·exact NA c hc) (by rw [List.length_cons];omega)
 unfold Bf
 rw [if_pos (show rs0.left=0 from rfl),hl]
 simp only
 rw [if_pos (show (42 :: dec n).head?=some 42 from rfl)]
 have e:Dy (42 :: dec n) 42 1 128=.ok (n:Int):=by
  unfold Dy
  simp only
  rw [if_pos trivial,Qy (by omega)]
  simp only
  rw [if_neg (by omega),if_neg (by omega)]
 rw [e]
 simp only [List.length_cons,Int.toNat_natCast]
theorem OA {r:RS} {n:Nat} (m:List UInt8) (hr:0<r.left) (hz:r.size<0) (h2:n≤4096):Bf r ((36 :: dec n)++13 :: 10 :: m)=.go { r with size:=(n:Int),held:=r.held+((dec n).length+3) } ((dec n).length+3) []:=by
 have hd:=Ee (n:=n) (by omega)
 have hl:=QG m (s:=36 :: dec n) (fun c hc=>by
  rcases List.mem_cons.1 hc with hc|hc
  ·rw [hc];decide
  ·exact NA c hc) (by rw [List.length_cons];omega)
 unfold Bf
 rw [if_neg (by omega),if_pos hz,hl]
 simp only
 have e:Dy (36 :: dec n) 36 0 4096=.ok (n:Int):=by
  unfold Dy
  simp only
  rw [if_pos trivial,Qy (by omega)]
  simp only
  rw [if_neg (by omega),if_neg (by omega)]
 rw [e]
 simp only [List.length_cons]
theorem SN {r:RS} {s:List UInt8} (m:List UInt8) (hr:0<r.left) (hz:r.size=(s.length:Int)):Bf r (s++13 :: 10 :: m)=if r.left=1 then .go rs0 (s.length+2) [r.words++[Af s]] else .go ⟨r.left - 1,-1,r.words++[Af s],r.held+(s.length+2)⟩ (s.length+2) []:=by
 have hn:r.size.toNat=s.length:=by rw [hz,Int.toNat_natCast]
 unfold Bf
 rw [if_neg (by omega),if_neg (by omega),hn,if_neg (by simp),List.drop_left' rfl,if_pos (show List.take 2 (13 :: 10 :: m)=[13,10] from rfl),List.take_left' rfl]
def bytesOf (w:ByteArray):List UInt8:=w.data.toList
theorem NT (w:ByteArray):Af (bytesOf w)=w:=by
 unfold Af bytesOf
 simp
theorem Fy (w:ByteArray):(bytesOf w).length=w.size:=by
 unfold bytesOf
 rw [Array.length_toList];rfl
def prW (w:ByteArray):List UInt8:=(36 :: dec w.size)++13 :: 10 :: (bytesOf w++[13,10])
def DV (n:Nat):List UInt8:=(42 :: dec n)++[13,10]
def prB (l:List ByteArray):List UInt8:=DV l.length++l.flatMap prW
structure FE (l:List ByteArray):Prop where
 pos:l≠[]
 len:l.length≤128
 words:∀w∈l,w.size≤4096
open Classical in
noncomputable def prC (l:List ByteArray):List UInt8:=if FE l then prB l else []
theorem UF {n:Nat} {ws:List ByteArray} {h:Nat} {w:ByteArray} (m:List UInt8) (hw:w.size≤4096) :
  ∃h',BD ⟨n+1,-1,ws,h⟩ (prW w++m)=if n=0 then { BD rs0 m with out:=(ws++[w]) :: (BD rs0 m).out } else BD ⟨n,-1,ws++[w],h'⟩ m:=by
 have e1:prW w++m=(36 :: dec w.size)++13 :: 10 :: (bytesOf w++13 :: 10 :: m):=by unfold prW;simp
 have s1:=OA (r:=⟨n+1,-1,ws,h⟩) (n:=w.size) (bytesOf w++13 :: 10 :: m) (by simp) (by simp) hw
 have s2:=SN (r:=⟨n+1,(w.size:Int),ws,h+((dec w.size).length+3)⟩) (s:=bytesOf w) m (by simp) (by rw [Fy])
 have d1:((36 :: dec w.size)++13 :: 10 :: (bytesOf w++13 :: 10 :: m)).drop ((dec w.size).length+3)=bytesOf w++13 :: 10 :: m:=by
  rw [show (36 :: dec w.size)++13 :: 10 :: (bytesOf w++13 :: 10 :: m)=((36 :: dec w.size)++[13,10])++(bytesOf w++13 :: 10 :: m) by simp]
  exact List.drop_left' (by simp)
 have d2:(bytesOf w++13 :: 10 :: m).drop ((bytesOf w).length+2)=m:=by
  rw [show bytesOf w++13 :: 10 :: m=(bytesOf w++[13,10])++m by simp]
  exact List.drop_left' (by simp)
 rw [e1,run_go s1,d1,List.nil_append]
 simp only
 rw [NT] at s2
 by_cases hn:n=0
 ·subst hn
  refine ⟨0,?_⟩
  rw [if_pos rfl] at s2 ⊢
  rw [run_go s2,d2]
  rfl
 ·refine ⟨h+((dec w.size).length+3)+((bytesOf w).length+2),?_⟩
  rw [if_neg (by simp only;omega)] at s2
  rw [if_neg hn,run_go s2,d2]
  rfl
theorem Mc:∀(l:List ByteArray) (ws:List ByteArray) (h:Nat) (m:List UInt8),l≠[]→(∀w∈l,w.size≤4096)→BD ⟨l.length,-1,ws,h⟩ (l.flatMap prW++m)={ BD rs0 m with out:=(ws++l) :: (BD rs0 m).out }
 | [],_,_,_,h,_=>absurd rfl h
 | w :: l,ws,h,m,_,hw=>by
  rw [List.flatMap_cons,List.append_assoc,List.length_cons]
  obtain ⟨h',e⟩:=UF (n:=l.length) (ws:=ws) (h:=h) (l.flatMap prW++m) (hw w (by simp))
  rw [e]
  by_cases hl:l.length=0
  ·obtain rfl:l=[]:=List.eq_nil_of_length_eq_zero hl
   rw [if_pos (show ([]:List ByteArray).length=0 from rfl)]
   rfl
  ·rw [if_neg hl,Mc l (ws++[w]) h' m (fun e=>hl (by rw [e];rfl)) (fun x hx=>hw x (by simp [hx]))]
   simp
theorem SC {l:List ByteArray} (m:List UInt8) (h:FE l):BD rs0 (prB l++m)={ BD rs0 m with out:=l :: (BD rs0 m).out }:=by
 have hl:0<l.length:=List.length_pos_iff.2 h.pos
 have s1:=SL (n:=l.length) (l.flatMap prW++m) hl h.len
 have e1:prB l++m=(42 :: dec l.length)++13 :: 10 :: (l.flatMap prW++m):=by unfold prB DV;simp
 have d1:((42 :: dec l.length)++13 :: 10 :: (l.flatMap prW++m)).drop ((dec l.length).length+3)=l.flatMap prW++m:=by
  rw [show (42 :: dec l.length)++13 :: 10 :: (l.flatMap prW++m)=((42 :: dec l.length)++[13,10])++(l.flatMap prW++m) by simp]
  exact List.drop_left' (by simp)
 rw [e1,run_go s1,d1,Mc l [] _ m h.pos h.words]
 rfl
theorem Ws:BD rs0 []=⟨[],rs0,[],0⟩:=by
 refine GG ?_
 unfold Bf
 rw [if_pos (show rs0.left=0 from rfl)]
 rfl
theorem PT {l:List ByteArray} (hl:l.length≤200) (hw:∀w∈l,w.size≤5000):(prB l).length≤30+l.length * 6000:=by
 have key:∀l:List ByteArray,(∀w∈l,w.size≤5000)→(l.flatMap prW).length≤l.length * 6000:=by
  intro l
  induction l with
  | nil=>intro _;simp
  | cons w l ih =>
   intro h
   have h1:=ih (fun x hx=>h x (by simp [hx]))
   have h2:=h w (by simp)
   have h3:=Ee (n:=w.size) (by omega)
   rw [List.flatMap_cons,List.length_append,List.length_cons]
   have h4:(prW w).length=(dec w.size).length+5+w.size:=by unfold prW;simp [Fy];omega
   omega
 have h1:=key l hw
 have h2:=Ee (n:=l.length) (by omega)
 unfold prB DV
 simp only [List.length_append,List.length_cons,List.length_nil]
 omega
end Go.Proofs.YtkcolpfanmdmiaaGreatDoor
namespace Go.V
variable {g : Option (Nat × Bool)} {t : TypeId}
end Go.V
namespace Go.Proofs.YtkcolpfanmdmiaaGreatDoor
open Go.V
attribute [local irreducible] Blk Own hcell Ao Ab PlainT Ak Ad Ap Aa Ag EqT Au
theorem Sr {H:Array Obj} {F:Nat→Prop} {q:Option Addr} {d:Nat} {bs:List UInt8} (h:Sl H Ai q d bs) (hf:∀x,q=some x→bs≠[]→¬F x.block):PartsAt H F [(q,bs.length,d)] [bs] :=
 ⟨rfl,fun i h1 b hi hb=>by
  match i with
  | 0 =>
   obtain rfl:(q,bs.length,d)=h1:=by simpa using hi
   obtain rfl:bs=b:=by simpa using hb
   exact ⟨rfl,h,hf⟩
  | k+1=>simp at hi⟩
structure FdQ (w w':World) (ar a2 a8:Nat) (p0 pw0 p:Option Addr) (y:FdY):Prop where
 gv:Mt w' ar w.heap.size a2 a8 y.pd y.cd y.hs
 cm:Bj w'.heap (fun k=>blk y.pw=some k) y.hs y.ls
 fr:FrS (fun k=>k=ar∨blk p0=some k∨blk pw0=some k) w w'
 np:∀k,blk p=some k→blk p0=some k∨w.heap.size≤k
 npw:∀k,blk y.pw=some k→blk pw0=some k∨w.heap.size≤k
 h8:w.heap.size≤a8
 h2:w.heap.size≤a2
 ob:∀h∈y.hs,∀k,blk h.1=some k→blk pw0=some k∨w.heap.size≤k
structure FdJ (w0 w w':World) (ar B a2 a8:Nat) (p0 pw0 p:Option Addr) (c:Nat) (I:List UInt8) (r0:RS) (y:FdY):Prop where
 rd:Ba w0 w' ar B p c I y.a y.pw y.cw y.r 0
 o:FdQ w w' ar a2 a8 p0 pw0 p y
 run:BD r0 I={ BD y.r (I.drop y.a) with out:=y.ls++(BD y.r (I.drop y.a)).out }
 held:y.r.held+(I.length - y.a)≤1000000000
 good:Ng y.r
 cnt:y.ls.length≤y.a
theorem FdQ.own {w w1 w':World} {ar a2 a8:Nat} {p0 pw0 p:Option Addr} {y:FdY} {cs:List Value} (h:FdQ w w1 ar a2 a8 p0 pw0 p y) (hR:Blk w1.heap ar 192 cs) (hf:FrS (fun q=>q=ar) w1 w'):FdQ w w' ar a2 a8 p0 pw0 p y :=
 ⟨⟨hf.blk h.gv.ptr (fun e=>BB h.gv.ptr hR (by decide) e),hf.blk h.gv.box (fun e=>BB h.gv.box hR (by decide) e),h.gv.row.kept hf.one (fun x hx e=>by injection e with e;exact h.gv.row.apart hx hR (by decide) e)⟩,
  h.cm.fr hf (fun q _ hs hn=>⟨fun e=>IA hR (by decide) (by rw [← e];exact hs),hn⟩),h.fr.trans hf (fun q _ e=>.inl e),h.np,h.npw,h.h8,h.h2,h.ob⟩
structure Tj (w0 w:World) (ar B:Nat) (p pw:Option Addr) (X:Res) (v:Value) (w':World):Prop where
 fr:FrS (fun k=>k=ar∨blk p=some k∨blk pw=some k) w w'
 ex:∃pd cd hs p' c' pw' cw',v=.tuple #[.slice pd hs.length cd,.int .i64 X.err]∧Go.V.Own w' w.heap.size 61 Eu pd cd hs ∧
  Bj w'.heap (fun k=>blk pw'=some k) hs X.out∧(∀k,blk p'=some k→blk p=some k∨w.heap.size≤k)∧(∀k,blk pw'=some k→blk pw=some k∨w.heap.size≤k) ∧
  (X.err=0→Ba w0 w' ar B p' c' X.rest 0 pw' cw' X.st 0)∧(X.err≠0→Ba w0 w' ar B p' c' [] 0 pw' cw' ⟨0,0,[],0⟩ X.err)∧(∀h∈hs,∀k,blk h.1=some k→blk pw=some k∨w.heap.size≤k)
theorem JS {w0 w w1 w':World} {ar B a2 a8 c:Nat} {p0 pw0 p:Option Addr} {I:List UInt8} {y:FdY} {r0:RS} (hR:Ba w0 w1 ar B p c I y.a y.pw y.cw y.r 0) (h:FdQ w w1 ar a2 a8 p0 pw0 p y) (hf:FrS (fun q=>q=ar∨bx q=p) w1 w')
  (hR':Ba w0 w' ar B p c (I.drop y.a) 0 y.pw y.cw y.r 0) (hX:BD r0 I=⟨y.ls,y.r,I.drop y.a,0⟩) :
  Mt w' ar w.heap.size a2 a8 y.pd y.cd y.hs∧∀w2,Ext w' w2→Tj w0 w ar B p0 pw0 (BD r0 I) (.tuple #[.slice y.pd y.hs.length y.cd,.int .i64 0]) w2:=by
 have hbp:∀q,bx q=p→blk p=some q:=fun q e=>by rw [← e];rfl
 have n2:¬(a2=ar∨bx a2=p):=fun e=>e.elim (fun e=>BB h.gv.ptr hR.blk (by decide) e) (fun e=>hR.row.apartB h.gv.ptr (by decide) (hbp _ e))
 have n8:¬(a8=ar∨bx a8=p):=fun e=>e.elim (fun e=>BB h.gv.box hR.blk (by decide) e) (fun e=>hR.row.apartB h.gv.box (by decide) (hbp _ e))
 have hrow:Go.V.Own w' w.heap.size 61 Eu y.pd y.cd y.hs:=h.gv.row.fr hf (fun k hk e=>by
  have hx:∃x,y.pd=some x∧x.block=k:=by
   cases hp:y.pd with
   | none=>rw [hp] at hk;cases hk
   | some x=>rw [hp] at hk;injection hk with hk;exact ⟨x,rfl,hk⟩
  obtain ⟨x,hx,e2⟩:=hx
  subst e2
  rcases e with e|e
  ·exact h.gv.row.apart hx hR.blk (by decide) e.symm
  ·exact h.gv.row.apart2 hR.row (by decide) hx e.symm rfl)
 have hgv:Mt w' ar w.heap.size a2 a8 y.pd y.cd y.hs:=⟨hf.blk h.gv.ptr n2,hf.blk h.gv.box n8,hrow⟩
 refine ⟨hgv,fun w2 hx=>?_⟩
 rw [hX]
 refine ⟨?_,y.pd,y.cd,y.hs,p,c,y.pw,y.cw,rfl,hrow.ext hx,?_,h.np,h.npw,fun _=>hR'.xt hx,fun e=>absurd rfl e,h.ob⟩
 ·exact (h.fr.trans hf (fun q hq e=>e.elim .inl (fun e=>(h.np q (hbp q e)).elim (fun e=>.inr (.inl e)) (fun e=>by omega)))).trans (FrS.of_ext hx) (fun _ _ h=>h)
 ·refine (h.cm.fr hf (fun q _ hs hn=>⟨fun e=>?_,hn⟩)).ext hx
  rcases e with e|e
  ·exact IA hR.blk (by decide) (by rw [← e];exact hs)
  ·exact Hr hR.row (by decide) (hbp q e) hs
theorem EA {w0 w w1 w':World} {ar B a2 a8 c:Nat} {p0 pw0 p:Option Addr} {I:List UInt8} {a cw:Nat} {r:RS} {e:Int} {y:FdY} {r0:RS} (hR:Ba w0 w1 ar B p c I a y.pw cw r e) (h:FdQ w w1 ar a2 a8 p0 pw0 p y) (hf:FrS (fun q=>q=ar) w1 w')
  (hR':Ba w0 w' ar B none 0 [] 0 none 0 { left:=0,size:=0,words:=[],held:=0 } e) (he:e≠0) (hX:(BD r0 I).out=y.ls∧(BD r0 I).err=e) :
  Mt w' ar w.heap.size a2 a8 y.pd y.cd y.hs∧∀w2,Ext w' w2→Tj w0 w ar B p0 pw0 (BD r0 I) (.tuple #[.slice y.pd y.hs.length y.cd,.int .i64 e]) w2:=by
 have h2:=h.own hR.blk hf
 refine ⟨h2.gv,fun w2 hx=>⟨h2.fr.trans (FrS.of_ext hx) (fun _ _ h=>h),y.pd,y.cd,y.hs,none,0,none,0,by rw [hX.2],h2.gv.row.ext hx,?_,fun k hk=>(by cases hk),fun k hk=>(by cases hk),fun e0=>absurd (hX.2.symm.trans e0) he,fun _=>by rw [hX.2];exact hR'.xt hx,h.ob⟩⟩
 rw [hX.1]
 exact h2.cm.fr (FrS.of_ext (F:=fun _=>False) hx) (fun q _ hs hn=>⟨id,fun e=>by cases e⟩)
theorem FdQ.give {w0 w w1 w':World} {ar B a2 a8 c:Nat} {p0 pw0 p:Option Addr} {I:List UInt8} {y:FdY} {a:Nat} {r:RS} {ft:Int} {pd':Option Addr} {cd':Nat} {q:Option Addr} {d m:Nat} {l:List ByteArray} {a':Nat} {r':RS} (h:FdQ w w1 ar a2 a8 p0 pw0 p y) (hR:Ba w0 w1 ar B p c I a y.pw y.cw r ft)
  (hG:Mt w' ar w.heap.size a2 a8 pd' cd' (y.hs++[(q,m,d)])) (hf:FrS (fun k=>k=ar∨k=a8∨bx k=y.pd) w1 w') (_:∀k,blk pd'=some k→blk y.pd=some k∨w1.heap.size≤k) (hm:m=l.length) {Bl:Nat} (hl:Go.V.Own w1 Bl 9 Ar q d l) (hq:∀k,blk q=some k→blk pw0=some k∨w.heap.size≤k) :
  FdQ w w' ar a2 a8 p0 pw0 p ⟨a',r',none,0,y.hs++[(q,m,d)],y.ls++[l],pd',cd'⟩:=by
 have hbp:∀k,bx k=y.pd→blk y.pd=some k:=fun k e=>by rw [← e];rfl
 have hsz:=h.fr.size
 have hp1:∀k,blk p=some k→k<w1.heap.size:=fun k hk=>(hR.row.ge k hk).2
 refine ⟨hG,?_,h.fr.trans hf (fun k hk e=>?_),h.np,fun k hk=>(by cases hk),h.h8,h.h2,fun x hx=>(List.mem_append.1 hx).elim (h.ob x) (fun hx=>by rw [List.mem_singleton.1 hx];exact hq)⟩
 ·subst hm
  refine ((h.cm.fr (FrS.of_ext (F:=fun _=>False) Ext.rfl') (X':=fun k=>blk (none:Option Addr)=some k) (fun q _ _ _=>⟨id,fun e=>by cases e⟩)).snoc hl (fun k _ e=>by cases e)).fr hf (fun q _ hs _=>⟨fun e=>?_,fun e=>by cases e⟩)
  rcases e with e|e|e
  ·exact IA hR.blk (by decide) (by rw [← e];exact hs)
  ·exact IA h.gv.box (by decide) (by rw [← e];exact hs)
  ·exact Hr h.gv.row (by decide) (hbp q e) hs
 ·rcases e with e|e|e
  ·exact .inl e
  ·have:=h.h8;omega
  ·have:=(h.gv.row.ge k (hbp k e)).1;omega
theorem Pj {w0 w w5 w6 w7 w8 w9:World} {ar B a2 a8 c cw c8:Nat} {p0 pw0 p pw p8:Option Addr} {I:List UInt8} {z:FdY} {a a':Nat} {r r5:RS} {x:ByteArray} (_hR5:Ba w0 w5 ar B p c I a' pw cw r5 0) (_hO5:FdQ w w5 ar a2 a8 p0 pw0 p z) (_hf:FrS (fun q=>q=ar) w5 w6) (hR:Ba w0 w6 ar B p c I a z.pw z.cw r 0) (hO:FdQ w w6 ar a2 a8 p0 pw0 p z) (hx:Ext w6 w7)
  (ha:App w7 w8 B 9 Ar z.pw p8 c8 (r.words++[x])) (hg:w8.grownBy w9 (some ar)) (hA:Blk w9.heap ar 192 [.slice p I.length c,.int .i64 (a:Int),.int .i64 (r.left:Int),.int .i64 r.size,.slice p8 (r.words++[x]).length c8,.int .i64 (r.held:Int),.int .i64 0]) :
  Ba w0 w9 ar B p c I a p8 c8 ⟨r.left,r.size,r.words++[x],r.held⟩ 0∧FdQ w w9 ar a2 a8 p0 pw0 p ⟨a,⟨r.left,r.size,r.words++[x],r.held⟩,p8,c8,z.hs,z.ls,z.pd,z.cd⟩:=by
 have hR7:=hR.xt hx
 have hnp:=ha.new
 unfold BK at hnp
 have hz7:=hx.size
 have hfr:FrS (fun k=>k=ar∨blk z.pw=some k) w6 w9:=((FrS.of_ext hx).trans (FrS.of_grown (F:=fun k=>k=ar∨blk z.pw=some k) ha.grown (fun k hk=>.inr hk)) (fun _ _ h=>h)).trans (FrS.of_grown (F:=fun k=>k=ar∨blk z.pw=some k) hg (fun k hk=>by injection hk with hk;exact .inl hk.symm)) (fun _ _ h=>h)
 have hw8:=hR7.row.kept ha.grown (fun y hy=>hR7.wds.apartR hR7.row (by decide) y hy)
 have hb8:=hR7.blk.grown ha.grown (hR7.wds.apartB hR7.blk (by decide))
 have hpw:∀k,blk z.pw=some k→B≤k:=fun k hk=>(hR.wds.ge k hk).1
 have h0:=hR.h0
 have hlt:=hR.lt
 have hpx:∀k,blk z.pd=some k→∃y,z.pd=some y∧y.block=k:=fun k hk=>by
  cases hp:z.pd with
  | none=>rw [hp] at hk;cases hk
  | some y=>rw [hp] at hk;injection hk with hk;exact ⟨y,rfl,hk⟩
 refine ⟨⟨hA,hw8.kept hg (fun y hy e=>by injection e with e;exact hw8.apart hy hb8 (by decide) e),ha.own.kept hg (fun y hy e=>by injection e with e;exact ha.own.apart hy hb8 (by decide) e),(hR7.ext.own ha.grown (fun k hk=>by have:=hpw k hk;omega)).own hg (fun k hk=>by injection hk with hk;omega),h0,hlt,Nat.le_trans ha.base hg.size,hR.la⟩,?_⟩
 refine ⟨⟨hfr.blk hO.gv.ptr (fun e=>e.elim (fun e=>BB hO.gv.ptr hR.blk (by decide) e) (fun e=>hR.wds.apartB hO.gv.ptr (by decide) e)),hfr.blk hO.gv.box (fun e=>e.elim (fun e=>BB hO.gv.box hR.blk (by decide) e) (fun e=>hR.wds.apartB hO.gv.box (by decide) e)),hO.gv.row.fr hfr (fun k hk e=>?_)⟩,?_,hO.fr.trans hfr (fun q hq e=>e.elim .inl (fun e=>(hO.npw q e).elim (fun e=>.inr (.inr e)) (fun e=>by omega))),hO.np,fun k hk=>?_,hO.h8,hO.h2,hO.ob⟩
 ·obtain ⟨y,hy,e2⟩:=hpx k hk
  subst e2
  exact e.elim (fun e=>hO.gv.row.apart hy hR.blk (by decide) e.symm) (fun e=>hR.wds.apartR hO.gv.row (by decide) y hy e)
 ·refine hO.cm.fr hfr (fun q hq hs hn=>⟨fun e=>e.elim (fun e=>IA hR.blk (by decide) (by rw [← e];exact hs)) hn,fun e=>?_⟩)
  rcases hnp with h|h
  ·exact hn (by rw [← h];exact e)
  ·have:=h q e;omega
 ·rcases hnp with h|h
  ·exact hO.npw k (by rw [← h];exact hk)
  ·have:=h k hk;have:=hO.fr.size;exact .inr (by omega)
theorem Pi {w0:World} {ar B:Nat} {p:Option Addr} {c:Nat} {inp:List UInt8} {pw:Option Addr} {cw:Nat} {r:RS} {q:Option Addr} {d:Nat} {ks:List Hdr} {parts:List (List UInt8)} {w:World} (hR:Ba w0 w ar B p c inp 0 pw cw r 0)
  (hS:Sl w.heap Eu q d ks) (hSn:∀x,q=some x→ks≠[]→¬(x.block=ar∨blk p=some x.block)) (hb:PartsAt w.heap (fun k=>k=ar∨blk p=some k) ks parts) (hN:inp.length+parts.flatten.length≤100000000) (hH:r.held≤100000000) (hT:Pow w0) (hE:CL w0) (hg0:Ng r) :
  Ctr Tryz.prog 56 [.pointer (some (adr (bx ar) 0)),.slice q ks.length d] w (Tj w0 w ar B p pw (BD r (inp++parts.flatten))):=by
 have hbk:=hR.blk
 have hlen:=hb.len
 have hsb:=hS.bound
 have hok:=hS.ok
 refine Ac Tryz.func56 Tryz.ntmps56 rfl rfl rfl ?_
 repeat' (refine R1 ?_)
 refine Q1 ?_;refine Q8 ?_;intro a2 w1 ha1 hA2 hx1 hs1
 replace hA2:Blk w1.heap a2 126 [.pointer (some (adr (bx ar) 0))]:=hA2
 replace hbk:=hbk.ext hx1
 repeat' (first|refine R1 ?_|(refine Q1 ?_;first|(refine Q3 (hu:=by (first|exact T.p126|exact T.p58)) ?_)|(refine Q2 (hu:=T.f192_6) ?_)|(refine Q6 (hu:=T.s145) ?_))|apply ZF|refine R2 ?_|fail)
 all_goals try (exfalso;omega)
 refine Zh (ι:=Nat × Option Addr × Nat) (fun y=>[(2,.pointer (some (adr (bx a2) 0))),(26,.slice q ks.length d),(27,.int .i64 (ks.length:Int)),(28,.int .i64 (y.1:Int))])
  (fun y w'=>y.1≤ks.length∧Ba w0 w' ar B y.2.1 y.2.2 (inp++(parts.take y.1).flatten) 0 pw cw r 0∧Blk w'.heap a2 126 [.pointer (some (adr (bx ar) 0))]∧FrS (fun k=>k=ar∨blk p=some k) w w'∧∀k,blk y.2.1=some k→blk p=some k∨w.heap.size≤k) (fun y=>ks.length - y.1) (0,p,c) ⟨rfl,rfl,rfl,rfl,trivial⟩
  ⟨Nat.zero_le _,by rw [List.take_zero,List.flatten_nil,List.append_nil];exact hR.xt Kz,hA2.ext Kz,FrS.of_ext Kz,fun k hk=>.inl hk⟩ ?_
 rintro ⟨i,p1,c1⟩ w2 ⟨hi,hR2,hA2,hF2,hnp2⟩
 simp only at hi hR2 hnp2
 refine Zn [(2,.pointer (some (adr (bx a2) 0))),(26,.slice q ks.length d),(27,.int .i64 (ks.length:Int)),(28,.int .i64 (i:Int))] ⟨rfl,rfl,rfl,rfl,trivial⟩ ?_
 by_cases hi0:i<ks.length
 ·obtain ⟨⟨q1,n1,d1⟩,hq1⟩:=Aj hi0
  obtain ⟨b,hgb⟩:=Aj (xs:=parts) (k:=i) (by omega)
  obtain ⟨e1,hb1,hn1⟩:=hb.get i _ b hq1 hgb
  simp only at e1 hb1 hn1
  subst e1
  have hb2:Sl w2.heap Ai q1 d1 b:=hb1.fr' hF2 hn1
  have hS2:=hS.fr' hF2 hSn
  have hts:=RH hgb
  have htl:=VL parts (i+1)
  rw [hts,List.length_append] at htl
  have hxd:Ext w2 w2.drew:=Ext.drew Ext.rfl'
  have nA2:=(hR2.row.ext hxd).apartB (hA2.ext hxd) (by decide)
  have nAr:=(hR2.row.ext hxd).apartB (hR2.blk.ext hxd) (by decide)
  have nW:=(hR2.row.ext hxd).apartR (hR2.wds.ext hxd) (by decide)
  have hbk2:=hR2.blk
  repeat' (first|refine R1 ?_|(refine Q1 ?_;first|(refine Q10 T.s145 hok (q:=i) (hj:=rfl) (h1:=hi0) ?_)|(refine Q9 (q:=i) (e:=Eu) (hu:=T.p40) (hs:=hS2) (hq:=hq1) ?_))|refine R2 ?_|(apply Za;exact rfl;all_goals (intro h;try (exfalso;omega)))|fail)
  all_goals try (exfalso;omega)
  refine Zl 1 [] (.node [5] (.alt 0 (.node [] (.alt 1 (.leaf [2,3,4,6,7,8,9]) .stop)) (.alt 1 (.node [2,3,4] (.alt 0 (.leaf [6,7,8,9]) (.alt 6 (.leaf [0,7,8,9]) .stop))) .stop))) mixed (by decide +kernel) ?_
  repeat' (first|refine R1 ?_|(refine Q1 ?_;first|(refine Q16 T.s40 (hR2.row.ext (Ext.drew Ext.rfl')) (hb2.ext (Ext.drew Ext.rfl')) (hB:=hR2.hB) (hlen:=by (simp only [List.length_append];omega)) (hmax:=by (simp only [List.length_append];omega)) ?_;intro p5 c5 w5 ha5;have hA25:=(hA2.ext hxd).grown ha5.grown nA2;have hbk5:=(hbk2.ext hxd).grown ha5.grown nAr)|(refine Q3 (hu:=by (first|exact T.p126|exact T.p40)) ?_)|(refine Q2 (hu:=T.f192_0) ?_))|(refine Zj ?_)|(refine Zp ?_)|(apply Zv)|refine R2 ?_|(exact Zq)|fail)
  all_goals
   rw [List.append_assoc,← hts] at ha5
   refine Q1 ?_;refine Q5 T.z40 hbk5 ?_;intro w6 hA6 hg6 hs6
   replace hA6:Blk w6.heap ar 192 [.slice p5 (inp++(parts.take i).flatten++b).length c5,.int .i64 ((0:Nat):Int),.int .i64 (r.left:Int),.int .i64 r.size,.slice pw r.words.length cw,.int .i64 (r.held:Int),.int .i64 0]:=hA6
   rw [List.append_assoc,← hts] at hA6
   have hR6:Ba w0 w6 ar B p5 c5 (inp++(parts.take (i+1)).flatten) 0 pw cw r 0 :=
    ⟨hA6,ha5.own.kept hg6 (fun x hx e=>by injection e with e;exact ha5.own.apart hx hbk5 (by decide) e),((hR2.wds.ext hxd).kept ha5.grown nW).kept hg6 (fun x hx e=>by injection e with e;exact ((hR2.wds.ext hxd).kept ha5.grown nW).apart hx hbk5 (by decide) e),((hR2.ext.trans hxd).own ha5.grown (fun k hk=>by have:=(hR2.row.ext hxd).ge k hk;have:=hR.h0;have:=hR.lt;omega)).own hg6 (fun k hk=>by injection hk with hk;have:=hR.h0;omega),hR.h0,hR.lt,Nat.le_trans ha5.base hg6.size,Nat.zero_le _⟩
   have hA26:=hA25.grown hg6 (fun e=>by injection e with e;exact BB hbk5 hA25 (by decide) e)
   repeat' (first|refine R1 ?_|refine R2 ?_|fail)
   have hnn:=ha5.new
   unfold BK at hnn
   have hz2:=hF2.size
   have hz6:=hg6.size
   have hF5:FrS (fun k=>k=ar∨blk p=some k) w w6:=((hF2.trans (FrS.of_ext hxd) (fun _ _ h=>h)).trans (FrS.of_grown (F:=fun k=>k=ar∨blk p1=some k) ha5.grown (fun k hk=>.inr hk)) (fun k hk e=>e.elim .inl (fun e=>(hnp2 k e).elim .inr (fun e=>by omega)))).trans (FrS.of_grown (F:=fun k=>k=ar∨blk p1=some k) hg6 (fun k hk=>by injection hk with hk;exact .inl hk.symm)) (fun k hk e=>e.elim .inl (fun e=>(hnp2 k e).elim .inr (fun e=>by omega)))
   exact Zc (i+1,p5,c5) ⟨rfl,rfl,rfl,rfl,trivial⟩ ⟨hi0,hR6,hA26,hF5,fun k hk=>hnn.elim (fun e=>hnp2 k (by rw [← e];exact hk)) (fun e=>.inr (Nat.le_trans hz2 (e k hk)))⟩ (by simp only;omega)
 ·obtain ⟨bs,hbs⟩:∃bs,parts.flatten=bs:=⟨_,rfl⟩
  rw [List.take_of_length_le (by omega),hbs] at hR2
  rw [hbs] at hN ⊢
  repeat' (first|refine R1 ?_|refine R2 ?_|(apply Za;exact rfl;all_goals (intro h;try (exfalso;omega)))|fail)
  all_goals try (exfalso;omega)
  refine Q1 ?_;refine Q7 T.zero146 ?_;intro a8 w3 ha8 hA8 hx3 hs3
  replace hA8:Blk w3.heap a8 146 [.slice none 0 0]:=hA8
  repeat' (first|refine R1 ?_|apply ZK|refine R2 ?_|fail)
  have z2:=hF2.size
  refine Zh (ι:=FdY) (fun y=>[(2,.pointer (some (adr (bx a2) 0))),(8,.pointer (some (adr (bx a8) 0))),(9,.func (.func 80) #[] #[.pointer (some (adr (bx a8) 0)),.pointer (some (adr (bx a2) 0))])])
   (fun y w'=>FdJ w0 w w' ar B a2 a8 p pw p1 c1 (inp++bs) r y) (fun y=>(inp++bs).length - y.a) ⟨0,r,pw,cw,[],[],none,0⟩ ⟨rfl,rfl,rfl,trivial⟩ ?_ ?_
  ·exact ⟨hR2.xt hx3,⟨⟨hA2.ext hx3,hA8,Own.nil _ _ _ _⟩,Bj.nil,(hF2.trans (FrS.of_ext hx3) (fun _ _ h=>h)).mono (fun k e=>e.elim .inl (fun e=>.inr (.inl e))),hnp2,fun k hk=>.inl hk,by omega,by omega,fun x hx=>by cases hx⟩,by simp,by simp only [List.length_append];omega,hg0,Nat.zero_le _⟩
  rintro y w4 hI
  refine Zn [(2,.pointer (some (adr (bx a2) 0))),(8,.pointer (some (adr (bx a8) 0))),(9,.func (.func 80) #[] #[.pointer (some (adr (bx a8) 0)),.pointer (some (adr (bx a2) 0))])] ⟨rfl,rfl,rfl,trivial⟩ ?_
  repeat' (first|refine R1 ?_|refine R2 ?_|fail)
  refine Zh (ι:=FdY) (fun y=>[(2,.pointer (some (adr (bx a2) 0))),(8,.pointer (some (adr (bx a8) 0))),(9,.func (.func 80) #[] #[.pointer (some (adr (bx a8) 0)),.pointer (some (adr (bx a2) 0))])])
   (fun z w'=>FdJ w0 w w' ar B a2 a8 p pw p1 c1 (inp++bs) r z∧y.a≤z.a) (fun z=>(inp++bs).length - z.a) y ⟨rfl,rfl,rfl,trivial⟩ ⟨hI,Nat.le_refl _⟩ ?_
  rintro z w5 ⟨hI5,hyz⟩
  refine Zn [(2,.pointer (some (adr (bx a2) 0))),(8,.pointer (some (adr (bx a8) 0))),(9,.func (.func 80) #[] #[.pointer (some (adr (bx a8) 0)),.pointer (some (adr (bx a2) 0))])] ⟨rfl,rfl,rfl,trivial⟩ ?_
  have hbk5:=hI5.rd.blk
  have hA25:=hI5.o.gv.ptr
  have hrun:=hI5.run
  have hdl:((inp++bs).drop z.a).length=(inp++bs).length - z.a:=List.length_drop
  have hIl:(inp++bs).length=inp.length+bs.length:=List.length_append
  have hza:=hI5.rd.la
  have hcnt:=hI5.cnt
  have hhl:=hI5.o.cm.len
  by_cases hl0:z.r.left=0
  ·have hr0:=hI5.good.zero hl0
   have hln:=LP hI5.rd (by omega)
   cases hL:Dn ((inp++bs).drop z.a) with
   | more =>
    rw [hL] at hln
    repeat' (first|(refine Q1 ?_;first|(refine Q3 (hu:=by (first|exact T.p126|exact T.p3)) ?_)|(refine Q2 (hu:=T.f192_2) ?_))|refine R1 ?_|refine R2 ?_|(apply Za;exact rfl;all_goals (intro h;try (exfalso;omega)))|fail)
    all_goals try (exfalso;omega)
    refine Q1 ?_;refine Q4 (f:=82) (hc:=hln) ?_;intro v w6 hv;refine ⟨.inl rfl,?_⟩
    obtain ⟨hf6,rfl,hR6⟩:=hv
    have hO6:=hI5.o.own hI5.rd.blk hf6
    have hstep:Bf z.r ((inp++bs).drop z.a)=.stop:=by
     unfold Bf
     rw [if_pos hl0,hL]
    rw [GG hstep,List.append_nil] at hrun
    have hti:=QV hR6 (show (inp++bs).length≤1000000000 by rw [List.length_append];omega)
    have hA2e:=(hO6).gv.ptr
    repeat' (first|refine R1 ?_|(refine Q1 ?_;(refine Q3 (hu:=T.p126) ?_))|refine R2 ?_|fail)
    refine Q1 ?_;refine Q4 (f:=86) (hc:=hti) ?_;rintro vT wT ⟨hfT,hRT⟩;refine ⟨.inl rfl,?_⟩
    obtain ⟨hGT,hFA⟩:=JS hR6 hO6 hfT hRT hrun
    have hbkT:=hRT.blk
    have hA2T:=hGT.ptr
    have hA8T:=hGT.box
    repeat' (first|refine R1 ?_|(refine Q1 ?_;first|(refine Q3 (hu:=by (first|exact T.p126|exact T.p58|exact T.p146)) ?_)|(refine Q2 (hu:=T.f192_6) ?_))|apply Zo|refine R2 ?_|refine Zf 1 [] [0,1,2,3,4,5,6] mixed (by decide +kernel) ?_|fail)
    refine Kr Tryz.results56 ?_
    exact hFA _ Kz
   | err e =>
    rw [hL] at hln
    repeat' (first|(refine Q1 ?_;first|(refine Q3 (hu:=by (first|exact T.p126|exact T.p3)) ?_)|(refine Q2 (hu:=T.f192_2) ?_))|refine R1 ?_|refine R2 ?_|(apply Za;exact rfl;all_goals (intro h;try (exfalso;omega)))|fail)
    all_goals try (exfalso;omega)
    refine Q1 ?_;refine Q4 (f:=82) (hc:=hln) ?_;intro v w6 hv;refine ⟨.inl rfl,?_⟩
    obtain ⟨hf6,rfl,hR6⟩:=hv
    have hO6:=hI5.o.own hI5.rd.blk hf6
    have hstep:Bf z.r ((inp++bs).drop z.a)=.fault e:=by
     unfold Bf
     rw [if_pos hl0,hL]
    have he:=NP hL
    rw [DC hstep,List.append_nil] at hrun
    have hti:=GL hR6 (by omega)
    have hA2e:=(hO6).gv.ptr
    repeat' (first|refine R1 ?_|(refine Q1 ?_;(refine Q3 (hu:=T.p126) ?_))|refine R2 ?_|fail)
    refine Q1 ?_;refine Q4 (f:=86) (hc:=hti) ?_;rintro vT wT ⟨hfT,hRT⟩;refine ⟨.inl rfl,?_⟩
    obtain ⟨hGT,hFA⟩:=EA hR6 hO6 hfT hRT (by omega) ⟨congrArg Res.out hrun,congrArg Res.err hrun⟩
    have hbkT:=hRT.blk
    have hA2T:=hGT.ptr
    have hA8T:=hGT.box
    repeat' (first|refine R1 ?_|(refine Q1 ?_;first|(refine Q3 (hu:=by (first|exact T.p126|exact T.p58|exact T.p146)) ?_)|(refine Q2 (hu:=T.f192_6) ?_))|apply Zo|refine R2 ?_|refine Zf 1 [] [0,1,2,3,4,5,6] mixed (by decide +kernel) ?_|fail)
    refine Kr Tryz.results56 ?_
    exact hFA _ Kz
   | ok s k =>
    rw [hL] at hln
    repeat' (first|(refine Q1 ?_;first|(refine Q3 (hu:=by (first|exact T.p126|exact T.p3)) ?_)|(refine Q2 (hu:=T.f192_2) ?_))|refine R1 ?_|refine R2 ?_|(apply Za;exact rfl;all_goals (intro h;try (exfalso;omega)))|fail)
    all_goals try (exfalso;omega)
    refine Q1 ?_;refine Q4 (f:=82) (hc:=hln) ?_;intro v w6 hv;refine ⟨.inl rfl,?_⟩
    obtain ⟨hf6,rfl,hR6⟩:=hv
    have hlk:=DT hL
    obtain ⟨hk1,hk2,hk3,hk4,hk5,hk6⟩:=Jv hL
    have hs1:s.length≤1026:=by rw [hk5,List.length_take];omega
    have hpre:=fun w'=>NL (w:=w') (s:=s) (by omega)
    repeat' (first|refine R1 ?_|(refine Q1 ?_;(refine Q4 (f:=83) (hc:=hpre _) ?_;rintro _ w7 ⟨rfl,hx7⟩;refine Kc ?_))|refine R2 ?_|(apply Za;exact rfl;all_goals (intro h;try (exfalso;omega)))|fail)
    all_goals try (exfalso;omega)
    ·have hx7':FrS (fun q=>q=ar) w5 w7:=hf6.trans (FrS.of_ext (F:=fun q=>q=ar) hx7) (fun _ _ h=>h)
     have h42:s.head?=some 42:=by simpa using ‹_›
     have hO7:=hI5.o.own hI5.rd.blk hx7'
     have hR7:=hR6.xt hx7
     have hA27:=hO7.gv.ptr
     have hnum:=IB (s:=s) (m:=42) (mi:=42) (lo:=1) (hi:=128) hR7 rfl (by omega) hT hE
     cases hNm:Dy s 42 1 128 with
     | error e =>
      rw [hNm] at hnum
      repeat' (refine Q1 ?_;first|refine Q19 ?_|(refine Q3 (hu:=T.p126) ?_))
      refine Q1 ?_;refine Q4 (f:=84) (hc:=hnum) ?_;intro v w8 hv;refine ⟨.inl rfl,?_⟩
      obtain ⟨hf8,rfl,hR8⟩:=hv
      have hO8:=hO7.own hR7.blk hf8
      have hstep:Bf z.r ((inp++bs).drop z.a)=.fault e:=by
       unfold Bf
       rw [if_pos hl0,hL]
       simp only
       rw [if_pos h42,hNm]
      have he:=QN hNm
      rw [DC hstep,List.append_nil] at hrun
      have hti:=GL hR8 (by omega)
      have hA2e:=(hO8).gv.ptr
      repeat' (first|refine R1 ?_|(refine Q1 ?_;(refine Q3 (hu:=T.p126) ?_))|refine R2 ?_|fail)
      refine Q1 ?_;refine Q4 (f:=86) (hc:=hti) ?_;rintro vT wT ⟨hfT,hRT⟩;refine ⟨.inl rfl,?_⟩
      obtain ⟨hGT,hFA⟩:=EA hR8 hO8 hfT hRT (by omega) ⟨congrArg Res.out hrun,congrArg Res.err hrun⟩
      have hbkT:=hRT.blk
      have hA2T:=hGT.ptr
      have hA8T:=hGT.box
      repeat' (first|refine R1 ?_|(refine Q1 ?_;first|(refine Q3 (hu:=by (first|exact T.p126|exact T.p58|exact T.p146)) ?_)|(refine Q2 (hu:=T.f192_6) ?_))|apply Zo|refine R2 ?_|refine Zf 1 [] [0,1,2,3,4,5,6] mixed (by decide +kernel) ?_|fail)
      refine Kr Tryz.results56 ?_
      exact hFA _ Kz
     | ok n =>
      rw [hNm] at hnum
      repeat' (refine Q1 ?_;first|refine Q19 ?_|(refine Q3 (hu:=T.p126) ?_))
      refine Q1 ?_;refine Q4 (f:=84) (hc:=hnum) ?_;intro v w8 hv;refine ⟨.inl rfl,?_⟩
      obtain ⟨hf8,rfl,hR8⟩:=hv
      have hO8:=hO7.own hR7.blk hf8
      have hA28:=hO8.gv.ptr
      have hbk8:=hR8.blk
      have hsz8:=BR s
      have nA8:=BB hA28 hbk8 (by decide)
      repeat' (first|refine R1 ?_|refine R2 ?_|fail)
      all_goals try (exfalso;omega)
      refine Zf 3 [ar] [0,1,2,3,4,5,6,7,8,9,10,11] mixed (by decide +kernel) ?_
      repeat' (refine Q1 ?_;first|refine Q19 ?_|refine Q21 ?_|(refine Q31 (hu:=T.p126) ?_)|(refine Q2 (hu:=T.f192_2) ?_)|refine Q52 ?_|refine Q17 T.str9 ?_)
      refine Q1 ?_;refine Q5 T.z3 hbk8 ?_;intro w9 hA9 hg9 hs9
      repeat' (refine Q1 ?_;first|refine Q21 ?_|(refine Q2 (hu:=T.f192_5) ?_))
      refine Q1 ?_;refine Q5 T.z3 hA9 ?_;intro w10 hA10 hg10 hs10
      repeat' (first|refine R1 ?_|refine R2 ?_|fail)
      obtain ⟨hn1,hn2⟩:=Kt hNm
      have hd8:Ext w8 w8.drew:=Ext.drew Ext.rfl'
      have hg:=BP hg9 hg10
      replace hA10:Blk w10.heap ar 192 [.slice p1 (inp++bs).length c1,.int .i64 ((z.a+k:Nat):Int),.int .i64 n,.int .i64 z.r.size,.slice z.pw z.r.words.length z.cw,.int .i64 (((Af s).size:Int)+2),.int .i64 0]:=hA10
      have e1:n=((n.toNat:Nat):Int):=by omega
      have e2:((Af s).size:Int)+2=((k:Nat):Int):=by omega
      rw [e2,hr0] at hA10
      rw [e1] at hA10
      have hR10:Ba w0 w10 ar B p1 c1 (inp++bs) (z.a+k) z.pw z.cw ⟨n.toNat,-1,[],k⟩ 0:=(hR8.xt hd8).set hg hA10 (by rw [hr0];rfl) (by omega)
      have hO10:=hO8.own hR8.blk ((FrS.of_ext (F:=fun q=>q=ar) hd8).trans (FrS.of_grown (F:=fun q=>q=ar) hg (fun k hk=>by injection hk with hk;exact hk.symm)) (fun _ _ h=>h))
      have hstep:Bf z.r ((inp++bs).drop z.a)=.go ⟨n.toNat,-1,[],k⟩ k []:=by
       unfold Bf
       rw [if_pos hl0,hL]
       simp only
       rw [if_pos h42,hNm]
      have hgd:=Mg hI5.good hstep
      rw [run_go hstep,List.nil_append,List.drop_drop] at hrun
      refine Zc (⟨z.a+k,⟨n.toNat,-1,[],k⟩,z.pw,z.cw,z.hs,z.ls,z.pd,z.cd⟩:FdY) ⟨rfl,rfl,rfl,trivial⟩ ⟨hR10,⟨hO10.gv,hO10.cm,hO10.fr,hO10.np,hO10.npw,hO10.h8,hO10.h2,hO10.ob⟩,hrun,by simp only;omega,hgd.1,by simp only;omega⟩ (by simp only;omega)
    ·have hx7':FrS (fun q=>q=ar) w5 w7:=hf6.trans (FrS.of_ext (F:=fun q=>q=ar) hx7) (fun _ _ h=>h)
     have h42:¬s.head?=some 42:=by simpa using ‹¬_›
     have hspl:=Qi (w:=w7) (s:=s) (by omega)
     refine Q1 ?_;refine Q4 (f:=85) (hc:=hspl) ?_;rintro v w8 ⟨ps,cs,rfl,hO8s,hx8⟩;refine ⟨.inl rfl,?_⟩
     have hx8':FrS (fun q=>q=ar) w5 w8:=hx7'.trans (FrS.of_ext (F:=fun q=>q=ar) hx8) (fun _ _ h=>h)
     have hO7:=hI5.o.own hI5.rd.blk hx7'
     have hO8:=hI5.o.own hI5.rd.blk hx8'
     have hR8:=(hR6.xt hx7).xt hx8
     have hA28:=hO8.gv.ptr
     have hbk8:=hR8.blk
     repeat' (first|refine R1 ?_|(refine Q1 ?_;first|(refine Q3 (hu:=T.p126) ?_)|(refine Q2 (hu:=T.f192_6) ?_)|(refine Q6 (hu:=T.s61) ?_))|refine R2 ?_|(apply Za;exact rfl;all_goals (intro h;try (exfalso;omega)))|fail)
     ·refine Q1 ?_;refine Q5 T.z58 hbk8 ?_;intro w9 hA9 hg9 hs9
      replace hA9:Blk w9.heap ar 192 [.slice p1 (inp++bs).length c1,.int .i64 ((z.a+k:Nat):Int),.int .i64 (z.r.left:Int),.int .i64 z.r.size,.slice z.pw z.r.words.length z.cw,.int .i64 (z.r.held:Int),.int .i64 12]:=hA9
      have hR9:=hR8.set (r':=z.r) (ft':=12) hg9 hA9 rfl (by omega)
      have hO9:=hO8.own hR8.blk (FrS.of_grown (F:=fun q=>q=ar) hg9 (fun k hk=>by injection hk with hk;exact hk.symm))
      have hstep:Bf z.r ((inp++bs).drop z.a)=.fault 12:=by
       unfold Bf
       rw [if_pos hl0,hL]
       simp only
       rw [if_neg h42,if_pos (by omega)]
      rw [DC hstep,List.append_nil] at hrun
      have hA29:=hO9.gv.ptr
      have hti:=GL hR9 (by decide)
      have hA2e:=(hO9).gv.ptr
      repeat' (first|(refine Q1 ?_;(refine Q3 (hu:=T.p126) ?_))|refine R1 ?_|refine R2 ?_|fail)
      refine Q1 ?_;refine Q4 (f:=86) (hc:=hti) ?_;rintro vT wT ⟨hfT,hRT⟩;refine ⟨.inl rfl,?_⟩
      obtain ⟨hGT,hFA⟩:=EA hR9 hO9 hfT hRT (by decide) ⟨congrArg Res.out hrun,congrArg Res.err hrun⟩
      have hbkT:=hRT.blk
      have hA2T:=hGT.ptr
      have hA8T:=hGT.box
      repeat' (first|refine R1 ?_|(refine Q1 ?_;first|(refine Q3 (hu:=by (first|exact T.p126|exact T.p58|exact T.p146)) ?_)|(refine Q2 (hu:=T.f192_6) ?_))|apply Zo|refine R2 ?_|refine Zf 1 [] [0,1,2,3,4,5,6] mixed (by decide +kernel) ?_|fail)
      refine Kr Tryz.results56 ?_
      exact hFA _ Kz
     ·have hgv:=LD (q:=ps) (m:=(Dt [] s).length) (d:=cs) hR8 hO8.gv (by have:=hR.ext.size;have:=hO8.h8;omega) hR.ext.size hO8.fr.size (by omega)
      refine Q1 ?_;refine Q22 (hc:=hgv) ?_;rintro v9 w9 ⟨pd',cd',hR9,hG9,hF9,hnd9⟩;refine Kc ?_
      have hc0:Dt [] s≠[]:=fun e=>by have h0:=congrArg List.length e;rw [List.length_nil] at h0;omega
      have hstep:Bf z.r ((inp++bs).drop z.a)=.go rs0 k [(Dt [] s).map Af]:=by
       unfold Bf
       rw [if_pos hl0,hL]
       simp only
       rw [if_neg h42,if_neg (by omega),if_neg hc0]
      have hgd:=Mg hI5.good hstep
      rw [run_go hstep,List.drop_drop] at hrun
      have hrs:{ z.r with words:=[],held:=0 }=rs0:=by rw [hr0];rfl
      rw [hrs] at hR9
      have hO9:=hO8.give (a':=z.a+k) (r':=rs0) (l:=(Dt [] s).map Af) hR8 hG9 hF9 hnd9 (by rw [List.length_map]) hO8s (fun k hk=>.inr (by have:=(hO8s.ge k hk).1;have:=hO7.fr.size;omega))
      repeat' (first|refine R1 ?_|refine R2 ?_|fail)
      refine Zc (⟨z.a+k,rs0,none,0,z.hs++[(ps,(Dt [] s).length,cs)],z.ls++[(Dt [] s).map Af],pd',cd'⟩:FdY) ⟨rfl,rfl,rfl,trivial⟩ ⟨hR9,hO9,by rw [hrun];simp,by simp only [rs0];omega,LF,by simp only [List.length_append,List.length_singleton];omega⟩ (by simp only;omega)
     ·have hc0:Dt [] s=[]:=List.eq_nil_of_length_eq_zero (by omega)
      have hstep:Bf z.r ((inp++bs).drop z.a)=.go rs0 k []:=by
       unfold Bf
       rw [if_pos hl0,hL]
       simp only
       rw [if_neg h42,if_neg (by rw [hc0];decide),if_pos hc0]
      rw [run_go hstep,List.nil_append,List.drop_drop] at hrun
      rw [hr0] at hR8
      refine Zc (⟨z.a+k,rs0,z.pw,z.cw,z.hs,z.ls,z.pd,z.cd⟩:FdY) ⟨rfl,rfl,rfl,trivial⟩ ⟨hR8,⟨hO8.gv,hO8.cm,hO8.fr,hO8.np,hO8.npw,hO8.h8,hO8.h2,hO8.ob⟩,hrun,by simp only [rs0];omega,LF,by simp only;omega⟩ (by simp only;omega)
  ·have hwd:=Ti hI5.rd (by omega) hI5.held hI5.good.size.1 hI5.good.size.2 hT hE
   have hwr:=Vi (cs:=(inp++bs).drop z.a) (r:=z.r) (by omega)
   have hwh:=Tg (cs:=(inp++bs).drop z.a) (r:=z.r)
   cases hW:FN z.r ((inp++bs).drop z.a) with
   | more r' k =>
    rw [hW] at hwd hwr hwh
    repeat' (first|(refine Q1 ?_;first|(refine Q3 (hu:=by (first|exact T.p126|exact T.p3)) ?_)|(refine Q2 (hu:=T.f192_2) ?_))|refine R1 ?_|refine R2 ?_|(apply Za;exact rfl;all_goals (intro h;try (exfalso;omega)))|fail)
    all_goals try (exfalso;omega)
    refine Q1 ?_;refine Q4 (f:=81) (hc:=hwd) ?_;intro v w6 hv;refine ⟨.inl rfl,?_⟩
    obtain ⟨hf6,rfl,hR6⟩:=hv
    have hO6:=hI5.o.own hI5.rd.blk hf6
    obtain ⟨hk,hrl,hrw,hrr⟩:=hwr
    rw [hrr,List.append_nil,List.drop_drop] at hrun
    have hO6':FdQ w w6 ar a2 a8 p pw p1 ⟨z.a+k,r',z.pw,z.cw,z.hs,z.ls,z.pd,z.cd⟩:=⟨hO6.gv,hO6.cm,hO6.fr,hO6.np,hO6.npw,hO6.h8,hO6.h2,hO6.ob⟩
    have hti:=QV hR6 (show (inp++bs).length≤1000000000 by rw [List.length_append];omega)
    have hA2e:=(hO6').gv.ptr
    repeat' (first|refine R1 ?_|(refine Q1 ?_;(refine Q3 (hu:=T.p126) ?_))|refine R2 ?_|fail)
    refine Q1 ?_;refine Q4 (f:=86) (hc:=hti) ?_;rintro vT wT ⟨hfT,hRT⟩;refine ⟨.inl rfl,?_⟩
    obtain ⟨hGT,hFA⟩:=JS hR6 hO6' hfT hRT hrun
    have hbkT:=hRT.blk
    have hA2T:=hGT.ptr
    have hA8T:=hGT.box
    repeat' (first|refine R1 ?_|(refine Q1 ?_;first|(refine Q3 (hu:=by (first|exact T.p126|exact T.p58|exact T.p146)) ?_)|(refine Q2 (hu:=T.f192_6) ?_))|apply Zo|refine R2 ?_|refine Zf 1 [] [0,1,2,3,4,5,6] mixed (by decide +kernel) ?_|fail)
    refine Kr Tryz.results56 ?_
    exact hFA _ Kz
   | err e =>
    rw [hW] at hwd hwr
    repeat' (first|(refine Q1 ?_;first|(refine Q3 (hu:=by (first|exact T.p126|exact T.p3)) ?_)|(refine Q2 (hu:=T.f192_2) ?_))|refine R1 ?_|refine R2 ?_|(apply Za;exact rfl;all_goals (intro h;try (exfalso;omega)))|fail)
    all_goals try (exfalso;omega)
    refine Q1 ?_;refine Q4 (f:=81) (hc:=hwd) ?_;intro v w6 hv;refine ⟨.inl rfl,?_⟩
    obtain ⟨hf6,rfl,a',r',hR6⟩:=hv
    have hO6:=hI5.o.own hI5.rd.blk hf6
    have he:=Vh hW
    have hX:(BD r (inp++bs)).out=z.ls∧(BD r (inp++bs)).err=e:=by
     rw [hrun]
     exact ⟨by simp only;rw [hwr.1,List.append_nil],hwr.2⟩
    have hti:=GL hR6 (by omega)
    have hA2e:=(hO6).gv.ptr
    repeat' (first|refine R1 ?_|(refine Q1 ?_;(refine Q3 (hu:=T.p126) ?_))|refine R2 ?_|fail)
    refine Q1 ?_;refine Q4 (f:=86) (hc:=hti) ?_;rintro vT wT ⟨hfT,hRT⟩;refine ⟨.inl rfl,?_⟩
    obtain ⟨hGT,hFA⟩:=EA hR6 hO6 hfT hRT (by omega) hX
    have hbkT:=hRT.blk
    have hA2T:=hGT.ptr
    have hA8T:=hGT.box
    repeat' (first|refine R1 ?_|(refine Q1 ?_;first|(refine Q3 (hu:=by (first|exact T.p126|exact T.p58|exact T.p146)) ?_)|(refine Q2 (hu:=T.f192_6) ?_))|apply Zo|refine R2 ?_|refine Zf 1 [] [0,1,2,3,4,5,6] mixed (by decide +kernel) ?_|fail)
    refine Kr Tryz.results56 ?_
    exact hFA _ Kz
   | ok s hh k =>
    rw [hW] at hwd hwr hwh
    repeat' (first|(refine Q1 ?_;first|(refine Q3 (hu:=by (first|exact T.p126|exact T.p3)) ?_)|(refine Q2 (hu:=T.f192_2) ?_))|refine R1 ?_|refine R2 ?_|(apply Za;exact rfl;all_goals (intro h;try (exfalso;omega)))|fail)
    all_goals try (exfalso;omega)
    refine Q1 ?_;refine Q4 (f:=81) (hc:=hwd) ?_;intro v w6 hv;refine ⟨.inl rfl,?_⟩
    obtain ⟨hf6,rfl,hR6⟩:=hv
    have hO6:=hI5.o.own hI5.rd.blk hf6
    obtain ⟨hk,hk0,hrr⟩:=hwr
    have hA26:=hO6.gv.ptr
    have hbk6:=hR6.blk
    simp only at hbk6 hwh
    have hO6w:=hR6.wds
    simp only at hO6w
    have hwl:=hI5.good.words
    repeat' (first|(refine Xm (id:=13) [(2,.pointer (some (adr (bx a2) 0))),(8,.pointer (some (adr (bx a8) 0))),(9,.func (.func 80) #[] #[.pointer (some (adr (bx a8) 0)),.pointer (some (adr (bx a2) 0))])] (fun w'=>∃p8 c8,Ba w0 w' ar B p1 c1 (inp++bs) (z.a+k) p8 c8 ⟨z.r.left,-1,z.r.words++[Af s],hh⟩ 0∧FdQ w w' ar a2 a8 p pw p1 ⟨z.a+k,⟨z.r.left,-1,z.r.words++[Af s],hh⟩,p8,c8,z.hs,z.ls,z.pd,z.cd⟩) ?_ ?_)|refine R1 ?_|refine R2 ?_|fail)
    ·refine Zl 1 [] (.node [5] (.alt 0 (.node [] (.alt 1 (.leaf [2,3,4,6,7,8,9,10]) (.alt 6 (.node [] (.alt 1 (.leaf [2,3,4,7,8,9,10]) .stop)) .stop))) (.alt 1 (.node [2,3,4] (.alt 0 (.leaf [6,7,8,9,10]) (.alt 6 (.node [] (.alt 0 (.leaf [7,8,9,10]) (.alt 7 (.leaf [0,8,9,10]) .stop))) .stop))) (.alt 6 (.node [] (.alt 0 (.node [] (.alt 1 (.leaf [2,3,4,7,8,9,10]) .stop)) (.alt 1 (.node [2,3,4] (.alt 0 (.leaf [7,8,9,10]) (.alt 7 (.leaf [0,8,9,10]) .stop))) .stop))) .stop)))) mixed (by decide +kernel) ?_
     repeat' (first|refine R1 ?_|(refine Q1 ?_;first|(refine Q3 (hu:=by (first|exact T.p126|exact T.p61)) ?_)|(refine Q2 (hu:=T.f192_4) ?_))|(refine Zj ?_)|(refine Zp ?_)|(apply Zv)|refine R2 ?_|(exact Zq)|fail)
     all_goals
      refine Q1 ?_
      refine Q12 Ar (Af s) T.s61 ?_
      intro p7 w7 hp7 hs7 _ hx7 hz7
      have hx67:Ext w6 w7:=Kz
      have hA27:=hA26.ext hx67
      have hbk7:=hbk6.ext hx67
      have hB7:=Nat.le_trans hR6.hB hx67.size
      have nA2:=(hO6w.ext hx67).apartB hA27 (by decide)
      have nAr:=(hO6w.ext hx67).apartB hbk7 (by decide)
      repeat' (first|(refine Q1 ?_;first|(refine Q16 T.s61 (hO6w.ext hx67) hs7 (hB:=hB7) ?_;intro p8 c8 w8 ha8;have hA28:=hA27.grown ha8.grown nA2;have hbk8:=hbk7.grown ha8.grown nAr)|(refine Q3 (hu:=by (first|exact T.p126|exact T.p61)) ?_)|(refine Q2 (hu:=T.f192_4) ?_))|refine R1 ?_|(refine Zj ?_)|(refine Zp ?_)|(apply Zv)|refine R2 ?_|(exact Zq)|fail)
     all_goals
      refine Q1 ?_;refine Q5 T.z61 hbk8 ?_;intro w9 hA9 hg9 hs9
      replace hA9:Blk w9.heap ar 192 [.slice p1 (inp++bs).length c1,.int .i64 ((z.a+k:Nat):Int),.int .i64 (z.r.left:Int),.int .i64 (-1),.slice p8 (z.r.words++[Af s]).length c8,.int .i64 (hh:Int),.int .i64 0]:=hA9
      have hRO:=Pj hI5.rd hI5.o hf6 hR6 hO6 hx67 ha8 hg9 hA9
      repeat' (first|apply Zu|(refine Zbf ⟨rfl,rfl,rfl,trivial⟩ ⟨p8,c8,hRO⟩))
    rintro w9 ⟨p8,c8,hR9,hO9⟩
    have hA29:=hO9.gv.ptr
    have hbk9:=hR9.blk
    simp only at hbk9
    repeat' (first|(refine Q1 ?_;first|(refine Q3 (hu:=by (first|exact T.p126|exact T.p3)) ?_)|(refine Q2 (hu:=T.f192_2) ?_))|refine R1 ?_|refine R2 ?_|fail)
    refine Q1 ?_;refine Q5 T.z3 hbk9 ?_;intro w10 hA10 hg10 hs10
    replace hA10:Blk w10.heap ar 192 [.slice p1 (inp++bs).length c1,.int .i64 ((z.a+k:Nat):Int),.int .i64 ((z.r.left:Int) - 1),.int .i64 (-1),.slice p8 (z.r.words++[Af s]).length c8,.int .i64 (hh:Int),.int .i64 0]:=hA10
    rw [show (z.r.left:Int) - 1=((z.r.left - 1:Nat):Int) by omega] at hA10
    have hR10:Ba w0 w10 ar B p1 c1 (inp++bs) (z.a+k) p8 c8 ⟨z.r.left - 1,-1,z.r.words++[Af s],hh⟩ 0:=hR9.set hg10 hA10 rfl (by omega)
    have hO10:=hO9.own hR9.blk (FrS.of_grown (F:=fun q=>q=ar) hg10 (fun k hk=>by injection hk with hk;exact hk.symm))
    have hA210:=hO10.gv.ptr
    clear hbk9
    by_cases hl1:z.r.left=1
    ·rw [if_pos hl1] at hrr
     have hl1':((z.r.left - 1:Nat):Int)=0:=by omega
     repeat' (first|refine R1 ?_|(refine Q1 ?_;first|(refine Q3 (hu:=by (first|exact T.p126|exact T.p3|exact T.p61)) ?_)|(refine Q2 (hu:=by (first|exact T.f192_2|exact T.f192_4)) ?_))|refine R2 ?_|(apply Za;exact rfl;all_goals (intro h;try (exfalso;omega)))|fail)
     all_goals try (exfalso;omega)
     have hgv:=LD (q:=p8) (m:=(z.r.words++[Af s]).length) (d:=c8) hR10 hO10.gv (by have:=hR.ext.size;have:=hO10.h8;omega) hR.ext.size hO10.fr.size (by simp only;omega)
     refine Q1 ?_;refine Q22 (hc:=hgv) ?_;rintro v11 w11 ⟨pd',cd',hR11,hG11,hF11,hnd11⟩;refine Kc ?_
     have hrs:(⟨z.r.left - 1,-1,[],0⟩:RS)=rs0:=by rw [hl1];rfl
     simp only at hR11 hG11 hF11 hnd11
     rw [hrs] at hR11
     have hO11:=hO10.give (a':=z.a+k) (r':=rs0) (l:=z.r.words++[Af s]) hR10 hG11 hF11 hnd11 rfl hR10.wds hO10.npw
     rw [hrr,List.drop_drop] at hrun
     repeat' (first|refine R1 ?_|refine R2 ?_|fail)
     refine Zc (⟨z.a+k,rs0,none,0,z.hs++[(p8,(z.r.words++[Af s]).length,c8)],z.ls++[z.r.words++[Af s]],pd',cd'⟩:FdY) ⟨rfl,rfl,rfl,trivial⟩ ⟨hR11,hO11,by rw [hrun];simp,by simp only [rs0];omega,LF,by simp only [List.length_append,List.length_singleton];omega⟩ (by simp only;omega)
    ·rw [if_neg hl1,List.drop_drop] at hrr
     rw [hrr] at hrun
     have hl1':¬((z.r.left - 1:Nat):Int)=0:=by omega
     repeat' (first|(refine Q1 ?_;first|(refine Q3 (hu:=by (first|exact T.p126|exact T.p3)) ?_)|(refine Q2 (hu:=T.f192_2) ?_))|refine R1 ?_|refine R2 ?_|(apply Za;exact rfl;all_goals (intro h;try (exfalso;omega)))|fail)
     all_goals try (exfalso;omega)
     have hheld:=hI5.held
     refine Zc (⟨z.a+k,⟨z.r.left - 1,-1,z.r.words++[Af s],hh⟩,p8,c8,z.hs,z.ls,z.pd,z.cd⟩:FdY) ⟨rfl,rfl,rfl,trivial⟩ ⟨⟨hR10,⟨hO10.gv,hO10.cm,hO10.fr,hO10.np,hO10.npw,hO10.h8,hO10.h2,hO10.ob⟩,hrun,by simp only;omega,⟨⟨by simp only;omega,by simp only;omega⟩,by simp only [List.length_append,List.length_singleton];omega,fun e=>by simp only at e;omega⟩,by simp only;omega⟩,by simp only;omega⟩ (by simp only;omega)
open Go.V Go.RowKit Go.Conc
structure Cx (g:Nat→Nat) (w:World) (j c cap:Nat) (buf:Array Value):Prop where
 ex:∃s r,w.heap[c]?=some (.chan cap buf false s r false)
 tag:g c=j
theorem Cx.lt {g:Nat→Nat} {w:World} {j c cap:Nat} {buf:Array Value} (h:Cx g w j c cap buf):c<w.heap.size:=by
 obtain ⟨s,r,h1⟩:=h.ex
 exact (Array.getElem?_eq_some_iff.1 h1).1
theorem Cx.stp {ix:Nat} {T:List Nat} {g g':Nat→Nat} {w w':World} {j c cap:Nat} {buf:Array Value} (h:Cx g w j c cap buf) (s:Stq ix T g g' w w') (hj:j ∉ T):Cx g' w' j c cap buf:=by
 have hl:=h.lt
 obtain ⟨a,b,h1⟩:=h.ex
 exact ⟨⟨a,b,(s.block c hl (fun e=>absurd e.2 (Gx h1 rfl)) (fun _=>by rw [h.tag];exact hj)).trans h1⟩,by rw [s.tags c hl];exact h.tag⟩
theorem Cx.ext {g:Nat→Nat} {w w':World} {j c cap:Nat} {buf:Array Value} (h:Cx g w j c cap buf) (hx:Ext w w') (u:Nat):Cx (rt g w u) w' j c cap buf:=h.stp (ix:=0) (T:=[]) (Stq.of_ext hx u) (by simp)
theorem FZ (w:World) (c cap:Nat) (buf:Array Value) (s r:Nat):w.setChan c cap buf false s r false=w.putObj c (.chan cap buf false s r false):=rfl
theorem Cx.set {g:Nat→Nat} {w:World} {j c cap:Nat} {buf buf':Array Value} (h:Cx g w j c cap buf) (s r u:Nat):Cx (rt g w u) (w.setChan c cap buf' false s r false) j c cap buf' :=
 ⟨⟨s,r,by rw [FZ];exact World.putObj_heap_same h.lt⟩,(AY h.lt).trans h.tag⟩
theorem Cx.stpG {ix:Nat} {T:List Nat} {g:Nat→Nat} {w:World} {j c cap:Nat} {buf buf':Array Value} (h:Cx g w j c cap buf) (s r u:Nat) (hT:j∈T):Stq ix T g (rt g w u) w (w.setChan c cap buf' false s r false):=by
 obtain ⟨a,b,h1⟩:=h.ex
 rw [FZ]
 exact Stq.of_grown (Br c _) u (Gx h1 rfl) (by rw [h.tag];exact hT)
theorem Cx.gr {w:World} {c cap:Nat} {buf:Array Value} {s r:Nat}:w.grownBy (w.setChan c cap buf false s r false) (some c):=by rw [FZ];exact Br c _
theorem Cx.neB {g g':Nat→Nat} {w:World} {j j' c cap b t:Nat} {buf:Array Value} {cs:List Value} (h:Cx g w j c cap buf) (k:Bk g' w j' b t cs):c≠b:=fun e=>by
 obtain ⟨s,r,h1⟩:=h.ex
 have:=k.blk
 unfold Blk at this
 rw [← e,h1] at this
 cases this
theorem Cx.neR {α:Type} {e:Enc α} {g g':Nat→Nat} {w:World} {j j' c cap t d:Nat} {buf:Array Value} {p:Option Addr} {xs:List α} (h:Cx g w j c cap buf) (k:Rw g' w j' t e p d xs):∀q,blk p=some q→some c≠some q:=fun q hq e'=>by
 obtain ⟨s,r,h1⟩:=h.ex
 obtain ⟨cur,h2⟩:=Go.V.Own.at k.own hq
 injection e' with e'
 rw [← e',h1] at h2
 cases h2
theorem Cx.turn {g:Nat→Nat} {w w':World} {j j' c cap b t:Nat} {buf:Array Value} {cs:List Value} (h:Cx g w j c cap buf) (k:Bk g w j' b t cs) (hg:w.grownBy w' (some b)) (u:Nat):Cx (rt g w u) w' j c cap buf:=by
 have hn:=h.neB k
 obtain ⟨s,r,h1⟩:=h.ex
 exact ⟨⟨s,r,(hg.block c h.lt (fun e=>hn (by injection e))).trans h1⟩,(AY h.lt).trans h.tag⟩
theorem Cx.turnR {α:Type} {e:Enc α} {g:Nat→Nat} {w w':World} {j j' c cap t d:Nat} {buf:Array Value} {p:Option Addr} {xs:List α} (h:Cx g w j c cap buf) (k:Rw g w j' t e p d xs) (hg:w.grownBy w' (blk p)) (u:Nat):Cx (rt g w u) w' j c cap buf:=by
 have hn:=h.neR k
 obtain ⟨s,r,h1⟩:=h.ex
 exact ⟨⟨s,r,(hg.block c h.lt (fun e=>hn c e.symm rfl)).trans h1⟩,(AY h.lt).trans h.tag⟩
structure RdA (g:Nat→Nat) (w:World) (j rd:Nat):Prop where
 ex:∃p c pw cw,Bk g w j rd 192 [.slice p 0 c,.int .i64 ((0:Nat):Int),.int .i64 ((0:Nat):Int),.int .i64 (-1),.slice pw 0 cw,.int .i64 ((0:Nat):Int),.int .i64 0]∧Rw g w j 5 Ai p c []∧Rw g w j 9 Ar pw cw []∧(∀k,blk p=some k→rd+1≤k)∧(∀k,blk pw=some k→rd+1≤k)
theorem RdA.stp {ix:Nat} {T:List Nat} {g g':Nat→Nat} {w w':World} {j rd:Nat} (h:RdA g w j rd) (s:Stq ix T g g' w w') (hj:j ∉ T):RdA g' w' j rd:=by
 obtain ⟨p,c,pw,cw,h1,h2,h3,h4,h5⟩:=h.ex
 exact ⟨p,c,pw,cw,h1.stp s hj,h2.stp s hj,h3.stp s hj,h4,h5⟩
theorem RdA.ext {g:Nat→Nat} {w w':World} {j rd:Nat} (h:RdA g w j rd) (hx:Ext w w') (u:Nat):RdA (rt g w u) w' j rd:=h.stp (ix:=0) (T:=[]) (Stq.of_ext hx u) (by simp)
theorem Ux {α:Type} {e:Enc α} {w:World} {B B' T:Nat} {p:Option Addr} {c:Nat} {xs:List α} (h:Go.V.Own w B T e p c xs) (hb:∀k,blk p=some k→B'≤k):Go.V.Own w B' T e p c xs:=by
 obtain ⟨h1,h2⟩:=h
 refine ⟨h1,?_⟩
 rcases h2 with h2|⟨g,cap,cur,h3,h4,h5⟩
 ·exact .inl h2
 ·refine .inr ⟨g,cap,cur,h3,?_,h5⟩
  have:=hb g (by cases p <;> simp_all [blk])
  omega
theorem RdA.rd {g:Nat→Nat} {w W0:World} {j rd:Nat} (h:RdA g w j rd) (hx:Ext W0 w) (h0:W0.heap.size≤rd):∃p c pw cw,Ba W0 w rd (rd+1) p c [] 0 pw cw rs0 0∧(∀k,k=rd∨blk p=some k∨blk pw=some k→¬IxB w k∧g k=j):=by
 obtain ⟨p,c,pw,cw,h1,h2,h3,h4,h5⟩:=h.ex
 refine ⟨p,c,pw,cw,⟨h1.blk,Ux h2.own h4,Ux h3.own h5,hx,h0,Nat.lt_succ_self _,h1.lt,by simp⟩,fun k hk=>?_⟩
 rcases hk with rfl|e|e
 ·exact ⟨h1.nix,h1.tag⟩
 ·exact ⟨h2.nix e,h2.tag k e⟩
 ·exact ⟨h3.nix e,h3.tag k e⟩
theorem RdA.of {g:Nat→Nat} {w W0:World} {j rd:Nat} {p pw:Option Addr} {c cw:Nat} (h:Ba W0 w rd (rd+1) p c [] 0 pw cw rs0 0) (hg:∀k,k=rd∨blk p=some k∨blk pw=some k→g k=j):RdA g w j rd :=
 ⟨p,c,pw,cw,⟨h.blk,hg _ (.inl rfl),by unfold ixT;decide⟩,⟨h.row.base (Nat.zero_le _),fun k hk=>hg k (.inr (.inl hk)),by unfold ixT;decide⟩,⟨h.wds.base (Nat.zero_le _),fun k hk=>hg k (.inr (.inr hk)),by unfold ixT;decide⟩,fun k hk=>(h.row.ge k hk).1,fun k hk=>(h.wds.ge k hk).1⟩

theorem Xx {ix:Nat} {g:Nat→Nat} {w W0:World} {j rd:Nat} {q q1:Option Addr} {d d1:Nat} {l:List ByteArray} (hR:RdA g w j rd) (hx:Ext W0 w) (h0:W0.heap.size≤rd) (hS:SlT g w 0 Eu q d [(q1,(prB l).length,d1)]) (hb:SlT g w 0 Ai q1 d1 (prB l)) (hj:j≠0) (hl:FE l) (hT:Pow W0) (hE:CL W0) :
  Ctr Tryz.prog 56 [.pointer (some (adr (bx rd) 0)),.slice q 1 d] w (fun v w'=>∃pd cd q2 d2 g',v=.tuple #[.slice pd 1 cd,.int .i64 0]∧Stq ix [j] g g' w w'∧RdA g' w' j rd∧SlT g' w' j Eu pd cd [(q2,l.length,d2)]∧SlT g' w' j Ar q2 d2 l):=by
 obtain ⟨p,c,pw,cw,hR0,hF⟩:=hR.rd hx h0
 have hlen:(prB l).length≤1000000:=by
  have:=PT (l:=l) (by have:=hl.len;omega) (fun x hx=>by have:=hl.words x hx;omega)
  have:=hl.len
  omega
 have nq:∀{α:Type} {e:Enc α} {p':Option Addr} {c':Nat} {xs:List α},SlT g w 0 e p' c' xs→∀x,p'=some x→¬(x.block=rd∨blk p=some x.block):=fun hs x hx e=>by
  have h1:=(hs.tag x hx).2.1
  have h2:=(hF x.block (by rcases e with e|e <;> simp [e])).2
  exact hj (by rw [← h2,h1])
 have h:=Pi hR0 (q:=q) (d:=d) (ks:=[(q1,(prB l).length,d1)]) (parts:=[prB l]) hS.sl (fun x hx _=>nq hS x hx) (Sr hb.sl (fun x hx _=>nq hb x hx)) (by simpa using Nat.le_trans hlen (by decide)) (by decide) hT hE LF
 refine h.mono ?_
 rintro v w' ⟨hf,pd,cd,hs,p',c',pw',cw',rfl,hO,hC,hnp,hnpw,hok,_,hob⟩
 have hrun:BD rs0 ([]++[prB l].flatten)=⟨[l],rs0,[],0⟩:=by
  have:=SC [] hl
  rw [Ws,List.append_nil] at this
  simpa using this
 rw [hrun] at hC hok ⊢
 have hS1:Stq ix [j] g (rt g w j) w w':=Stq.of_frs hf j (fun k hk hk'=>⟨(hF k hk').1,by simp [(hF k hk').2]⟩)
 have hsz:=hf.size
 have tg:∀k,(k<w.heap.size→g k=j)→rt g w j k=j:=fun k hk=>by
  by_cases h:k<w.heap.size
  ·rw [AY h];exact hk h
  ·exact CU (by omega)
 obtain ⟨h1,h2⟩:=hC
 match hs,h1 with
 | [(q2,n2,d2)],_ =>
  obtain ⟨e1,e2⟩:=h2 0 _ l rfl rfl
  simp only at e1 e2
  subst e1
  refine ⟨pd,cd,q2,d2,rt g w j,rfl,hS1,RdA.of (hok rfl) (fun k hk=>tg k (fun hlt=>?_)),⟨hO.sl,fun a ha=>?_⟩,⟨?_,?_⟩⟩
  ·rcases hk with e|e|e
   ·exact (hF k (.inl e)).2
   ·rcases hnp k e with e|e
    ·exact (hF k (.inr (.inl e))).2
    ·omega
   ·rcases hnpw k e with e|e
    ·exact (hF k (.inr (.inr e))).2
    ·omega
  ·have hk:blk pd=some a.block:=by rw [ha];rfl
   have h5:=hO.ge _ hk
   exact ⟨h5.2,CU h5.1,(Own.noB hO (by unfold ixT;decide) hk).not⟩
  ·exact Sl.cells (fun a v hv=>(BQ.1 hv).2.2) e2
  ·intro a ha
   obtain ⟨x,hx0⟩:∃x,l[0]?=some x:=by
    cases l with
    | nil=>exact absurd rfl hl.pos
    | cons x _=>exact ⟨x,rfl⟩
   have hc:=e2.cell 0 x hx0 0 _ rfl
   obtain ⟨hS,⟨o,ho,_⟩,_⟩:=BQ.1 hc
   subst ha
   have hb:(adr (some a) (0 * Ar.sz+0)).block=a.block:=rfl
   rw [hb] at hS ho
   have hlt:=(Array.getElem?_eq_some_iff.1 ho).1
   have hstr:Lg w'.heap a.block:=Classical.byContradiction fun e=>hS (.inr e)
   obtain ⟨cur,hcur⟩:=hstr
   refine ⟨hlt,tg _ (fun h=>?_),NoB.not ⟨cur,_,_,hcur,by unfold ixT;decide⟩⟩
   rcases hob _ (List.mem_singleton.2 rfl) a.block rfl with e|e
   ·exact (hF _ (.inr (.inr e))).2
   ·omega
end Go.Proofs.YtkcolpfanmdmiaaGreatDoor
namespace Go.V
variable {g : Option (Nat × Bool)} {t : TypeId} {k : IntKind} {i j : Int}
theorem Q112 (hx:E.look x=some (.int k i)) (hy:E.look y=some (.int k j)) (hlt:i<j) (hd:Ah n d=true) (h:G P n ops dr l (E.put d (.bool true)) w K):G1 P n ops dr ⟨d,.binOp .lss t x y t',ty,pos,af,g⟩ l E w K :=
 Zaw hx hy hd (by rw [decide_eq_true hlt];exact h)
end Go.V
namespace Go.Proofs.YtkcolpfanmdmiaaGreatDoor
open Go.V Go.RowKit Go.Conc
attribute [local irreducible] PlainT
theorem T.p127:PlainT Tryz.prog 127:=PlainT.of Tryz.underlying127 rfl
structure AV (g:Nat→Nat) (w:World) (b ss cl rd qc:Nat) (po:Option Addr) (co:Nat) (out:List UInt8) (buf:Array Value):Prop where
 box:Bk g w b ss 129 [.pointer (some (adr (bx cl) 0)),.pointer (some (adr (bx rd) 0)),.chan (some qc),.slice po out.length co,.bool false,.bool false]
 ch:Cx g w b qc 64 buf
 row:Rw g w b 5 Ai po co out
 rd:RdA g w (b+3) rd
theorem AV.stp {ix:Nat} {T:List Nat} {g g':Nat→Nat} {w w':World} {b ss cl rd qc:Nat} {po:Option Addr} {co:Nat} {out:List UInt8} {buf:Array Value} (h:AV g w b ss cl rd qc po co out buf) (s:Stq ix T g g' w w') (h1:b ∉ T) (h2:b+3 ∉ T):AV g' w' b ss cl rd qc po co out buf :=
 ⟨h.box.stp s h1,h.ch.stp s h1,h.row.stp s h1,h.rd.stp s h2⟩
theorem AV.ext {g:Nat→Nat} {w w':World} {b ss cl rd qc:Nat} {po:Option Addr} {co:Nat} {out:List UInt8} {buf:Array Value} (h:AV g w b ss cl rd qc po co out buf) (hx:Ext w w') (u:Nat):AV (rt g w u) w' b ss cl rd qc po co out buf:=h.stp (ix:=0) (T:=[]) (Stq.of_ext hx u) (by simp) (by simp)
variable {rd : Nat} {buf : Array Value} {l : List ByteArray}
set_option maxRecDepth 20000 in
theorem FY (h:AV g w b ss cl rd qc po co out buf):Ctr Tryz.prog 31 [.pointer (some (adr (bx ss) 0))] w (fun v w'=>v=.bool false∧w=w'):=by
 have hb:=h.box.blk
 refine Ac Tryz.func31 Tryz.ntmps31 rfl rfl rfl ?_
 repeat' (first|refine R1 ?_|(refine Q1 ?_;first|(refine Q15 Tryz.underlying87 (t:=87) ?_)|(refine Q15 Tryz.underlying125 (t:=125) ?_)|(refine Q2 (hu:=by (first|exact T.f129_0|exact T.f129_5)) ?_)|(refine Q3 (hu:=by (first|exact T.p125|exact T.p4)) ?_))|refine R2 ?_|fail)
 all_goals try (exfalso;simp only at *;omega)
 refine Kr Tryz.results31 ?_
 exact ⟨rfl,rfl⟩
set_option maxRecDepth 20000 in
theorem HY (h:AV g w b ss cl rd qc po co out buf) (ho:out.length<65536):Ctr Tryz.prog 57 [.pointer (some (adr (bx ss) 0))] w (fun v w'=>v=.bool (decide (0<buf.size))∧w=w'):=by
 have hb:=h.box.blk
 obtain ⟨s,r,hch⟩:=h.ch.ex
 have ho':(out.length:Int)<65536:=by omega
 refine Ac Tryz.func57 Tryz.ntmps57 rfl rfl rfl ?_
 repeat' (first|refine R1 ?_|(refine Q1 ?_;first|(refine Q4 (f:=31) (hc:=FY h) ?_;rintro _ _ ⟨rfl,rfl⟩;refine Kc ?_)|(refine Q3 (t:=127) (hu:=T.p127) (hb:=hb) ?_)|(refine Q112 rfl rfl ho' rfl ?_)|refine Q71 Tryz.underlying127 hch ?_|(refine Q2 (hu:=by (first|exact T.f129_3|exact T.f129_2|exact T.f129_4)) ?_)|(refine Q3 (hu:=by (first|exact T.p40|exact T.p4)) ?_)|(refine Q6 (hu:=T.s40) ?_))|refine R2 ?_|((fail_if_success (refine Q1 ?_));apply Zb;exact rfl;exact rfl;all_goals (intro h;try (exfalso;omega)))|fail)
 all_goals
  refine Kr Tryz.results57 ?_
  refine ⟨congrArg Value.bool ?_,rfl⟩
  first|exact (decide_eq_true (by omega)).symm|exact (decide_eq_false (by omega)).symm
set_option maxRecDepth 20000 in
theorem Oo (h:AV g w b ss cl rd qc po co out buf):Ctr Tryz.prog 62 [.pointer (some (adr (bx ss) 0))] w (fun v w'=>v=.tuple #[.int .i64 (buf.size:Int),.int .i64 (out.length:Int)]∧Ext w w'):=by
 have hb:=h.box.blk
 obtain ⟨s,r,hch⟩:=h.ch.ex
 refine Ac Tryz.func62 Tryz.ntmps62 rfl rfl rfl ?_
 repeat' (first|refine R1 ?_|(refine Q1 ?_;first|(refine Q15 Tryz.underlying87 (t:=87) ?_)|(refine Q3 (t:=127) (hu:=T.p127) (hb:=hb) ?_)|refine Q71 Tryz.underlying127 hch ?_|(refine Q2 (hu:=by (first|exact T.f129_2|exact T.f129_3)) ?_)|(refine Q3 (hu:=T.p40) ?_)|(refine Q6 (hu:=T.s40) ?_))|refine R2 ?_|refine Zf 1 [] [0,1,2,3,4,5,6,7,8,9,10,11] mixed (by decide +kernel) ?_|fail)
 refine Kr Tryz.results62 ?_
 exact ⟨rfl,Ext.drew Ext.rfl'⟩
variable {q1 : Option Addr} {d d1 : Nat}
theorem QX:Ag Tryz.prog 61 (.slice none 0 0):=Ag.of (by kernel_rfl)
set_option maxRecDepth 20000 in
theorem SE (h:AV g w b ss cl rd qc po co out #[]) (_:b≠0) (hx:Ext W0 w) (h0:W0.heap.size≤rd) (hS:SlT g w 0 Eu q d [(q1,(prB l).length,d1)]) (hB:SlT g w 0 Ai q1 d1 (prB l)) (hl:FE l) (hT:Pow W0) (hE:CL W0) :
  Ctr Tryz.prog 40 [.pointer (some (adr (bx ss) 0)),.slice q 1 d] w (fun v w'=>v=.int .i64 0∧∃g' q2 d2,Stq ix [b,b+3] g g' w w'∧AV g' w' b ss cl rd qc po co out #[.slice q2 l.length d2]∧SlT g' w' (b+3) Ar q2 d2 l):=by
 have hb:=h.box.blk
 refine Ac Tryz.func40 Tryz.ntmps40 rfl rfl rfl ?_
 repeat' (first|refine R1 ?_|(refine Q1 ?_;first|(refine Q4 (f:=31) (hc:=FY h) ?_;rintro _ _ ⟨rfl,rfl⟩;refine Kc ?_)|(refine Q2 (hu:=by (first|exact T.f129_4|exact T.f129_1)) ?_)|(refine Q3 (hu:=by (first|exact T.p4|exact T.p126)) ?_))|apply ZF|refine R2 ?_|fail)
 refine Q1 ?_;refine Q4 (hc:=Xx (ix:=ix) h.rd hx h0 hS hB (by omega) hl hT hE) ?_;rintro _ w1 ⟨pd,cd,q2,d2,g1,rfl,hS1,hR1,hC1,hW1⟩;refine Kc ?_
 have hB1:=h.box.stp hS1 (by simp)
 have hch1:=h.ch.stp hS1 (by simp)
 have hrow1:=h.row.stp hS1 (by simp)
 have hb1:=hB1.blk
 repeat' (first|refine R1 ?_|(refine Q1 ?_;(refine Q2 (hu:=T.f129_4) ?_))|refine R2 ?_|fail)
 refine Q1 ?_;refine Q5 T.z4 hb1 ?_;intro w2 hb2 hg2 hs2
 replace hb2:Blk w2.heap ss 129 [.pointer (some (adr (bx cl) 0)),.pointer (some (adr (bx rd) 0)),.chan (some qc),.slice po out.length co,.bool false,.bool false]:=hb2
 have hS2:=hB1.stpG (T:=[b]) (ix:=ix) hg2 0 (by simp)
 have hB2:=hB1.turned (u:=0) hb2
 repeat' (first|refine R1 ?_|(refine Q1 ?_;(refine Q6 (hu:=T.s146) ?_))|apply ZK|refine R2 ?_|fail)
 have hC2:=hC1.stp hS2 (by simp)
 have hR2:=hR1.stp hS2 (by simp)
 have hW2:=hW1.stp hS2 (by simp)
 have hrow2:=hrow1.turn hg2 (fun k hk e=>hrow1.neB hB1 (by decide) (by rw [hk];exact e.symm)) 0
 have hch2:=hch1.turn hB1 hg2 0
 obtain ⟨s,r,hch⟩:=hch2.ex
 have hsl:=hC2.sl
 have hg0:[(q2,l.length,d2)][0]?=some (q2,l.length,d2):=rfl
 refine Zm ?_
 repeat' (first|(refine ZV 0 rfl rfl ?_)|refine R1 ?_|(refine Q1 ?_;first|(refine Q10 T.s146 hsl.ok (q:=0) (hj:=rfl) (h1:=by (simp)) ?_)|(refine Q9 (q:=0) (e:=Eu) (hu:=T.p61) (hs:=hsl) (hq:=hg0) ?_)|(refine Q3 (t:=127) (hu:=T.p127) (hb:=hb2) ?_)|(refine Q2 (hu:=T.f129_2) ?_))|refine R2 ?_|fail)
 refine ⟨_,_,Ik.send rfl rfl hch (by decide) QX,?_⟩
 have hS3:=hch2.stpG (T:=[b]) (ix:=ix) (buf':=(#[]:Array Value).push (.slice q2 l.length d2)) (s+1) r 0 (by simp)
 have hch3:=hch2.set (buf':=(#[]:Array Value).push (.slice q2 l.length d2)) (s+1) r 0
 have hg3:=Cx.gr (w:=w2) (c:=qc) (cap:=64) (buf:=(#[]:Array Value).push (.slice q2 l.length d2)) (s:=s+1) (r:=r)
 have hB3:=hB2.turn hg3 (fun e=>hch2.neB hB2 (by injection e)) 0
 have hrow3:=hrow2.turn hg3 (hch2.neR hrow2) 0
 have hR3:=hR2.stp hS3 (by simp)
 have hW3:=hW2.stp hS3 (by simp)
 have hb3:=hB3.blk
 repeat' (first|refine R1 ?_|refine R2 ?_|fail)
 refine Zg ?_
 repeat' (first|refine R1 ?_|(refine Q1 ?_;first|(refine Q2 (hu:=T.f129_4) ?_)|(refine Q3 (hu:=T.p4) ?_))|apply Zo|refine R2 ?_|fail)
 all_goals try (exfalso;omega)
 refine Kr Tryz.results40 ?_
 exact ⟨rfl,_,q2,d2,((hS1.mono (by simp)).trans (hS2.mono (by simp))).trans (hS3.mono (by simp)),⟨hB3,hch3,hrow3,hR3⟩,hW3⟩
open Go.V
attribute [local irreducible] Blk Own hcell Ao Ab Ak Ad Ap Aa Ag EqT Au
theorem zrL:Ag Tryz.prog 208 .nilFunc:=Ag.of (by kernel_rfl)
theorem zrP:Ag Tryz.prog 209 .nilFunc:=Ag.of (by kernel_rfl)
theorem szL:Ad Tryz.prog 208 1:=Ad.of (by kernel_rfl)
theorem szP:Ad Tryz.prog 209 1:=Ad.of (by kernel_rfl)
def wR (ts:List Rep):List UInt8:=ts.flatMap (fun t=>if Bu 4 t=true then wT 4 t else [])
theorem WL {ts:List Rep} {i:Nat} {t:Rep} (h:ts[i]?=some t):wR (ts.take (i+1))=wR (ts.take i)++(if Bu 4 t=true then wT 4 t else []):=by
 unfold wR
 rw [AJ h,List.flatMap_append]
 simp
end Go.Proofs.YtkcolpfanmdmiaaGreatDoor
