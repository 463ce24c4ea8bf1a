/- WholeFull: a full log. -/
import Derived.Test.YtkcolpfanmdmiaaGreatDoorVM21
set_option maxHeartbeats 8000000
namespace Go.Proofs.YtkcolpfanmdmiaaGreatDoor
open Go.V Go.ChangeShapes Go.WideShapes Go.ChangeAt Go.RowKit
namespace wholeFull
set_option maxRecDepth 100000 in
theorem contract (H:Type) (enc:TypeId × Value→H) (W:World) (base:Nat) (args:Array Value) (ds gs:List (DataW H)) (before:List MemPlace)
  (hval0:∀(j:Nat) t v,Tryz.f4.params[j]?=some t→args[j]?=some v→Value.okWide Tryz.prog W .any base t v)
  (hW:DataW.Whole enc Tryz.prog Tryz.f4.params.toList Rows.wholeFullSpec.vars false W args.toList ds gs before) (hL:laidMetH Tryz.prog Rows.wholeFullRow.laid W) (_:W.ShapedOpen Tryz.prog) :
  Calls Tryz.prog 4 args W fun e W'=>∃v,e=.returned v∧Rows.wholeFullSpec.post enc Tryz.prog Tryz.f4 false true false false W args v W':=by
 have hT:Pow W:=XJ hL
 have hval:=hval0
 have hW':=hW
 obtain ⟨p,q,hA0,hV,rfl,hfz,hnd⟩:=hW
 have hA:DataW.TrodAll enc Tryz.prog W 0 (fun _=>true) true Tryz.f4.params.toList args.toList ds p:=hA0
 rw [Tryz.params4] at hA hval
 obtain ⟨v0,vs0,d0,ds0,p0,q0,hargs,rfl,rfl,h0,r0⟩:=trodAll_cons hA
 obtain ⟨v1,vs1,d1,ds1,p1,q1,rfl,rfl,rfl,h1,r1⟩:=trodAll_cons r0
 obtain ⟨rfl,rfl,rfl⟩:=trodAll_nil r1
 obtain rfl:args=#[v0,v1]:=by cases args;simp_all
 obtain ⟨rfl,rfl⟩:=trodVars_none hV
 have k0:=hval 0 3 v0 rfl rfl
 have k1:=hval 1 3 v1 rfl rfl
 clear hA0 hval0
 have hE:CL W:=VJ hL
 obtain ⟨a,rfl,ba⟩:=Qo Tryz.underlying3 k0 h0
 obtain ⟨b,rfl,bb⟩:=Qo Tryz.underlying3 k1 h1
 refine (IL ba bb hT hE).calls.mono fun e W' he=>?_
 obtain ⟨_,rfl,rfl,hx⟩:=he
 exact ⟨_,rfl,Ul laidOut (by kernel_rfl) Tryz.underlying4 rfl rfl hW' rfl hx⟩
theorem Uk (os:Os):laidMet Tryz.prog Rows.wholeFullRow.laid ((Hl os).forCall (fun _ _=>0) ⟨#[],#[(.int .i64 0),(.int .i64 0)],[]⟩).memory :=
 laidMet_of_run' 8 (by kernel_rfl) (by kernel_rfl)
theorem reads (os:Os) {H:Type} (enc:TypeId × Value→H):∃places,DataW.whole enc Tryz.prog ((Hl os).forCall (fun _ _=>0) ⟨#[],#[(.int .i64 0),(.int .i64 0)],[]⟩).memory Tryz.f4.params.toList Rows.wholeFullSpec.vars false #[(.int .i64 0),(.int .i64 0)].toList 8=some ([.lit (.int .i64 0),.lit (.int .i64 0)],[],places) :=
 ⟨[],by kernel_rfl⟩
set_option maxRecDepth 100000 in
theorem lifted (os:Os) (started:os.Started) (H:Type) (enc:TypeId × Value→H) (F:Stop.Interp) :
  ReturnsInHanded {} Tryz.checked os 4 .any ((OpenSpec.ofChange Rows.wholeFullSpec).preRow enc Tryz.prog Tryz.f4 Rows.wholeFullRow.domain false Rows.wholeFullRow.laid) (((OpenSpec.ofChange Rows.wholeFullSpec).at F).post enc Tryz.prog Tryz.f4 false true false false):=by
 obtain ⟨places,hx⟩:=reads os enc
 refine returnsInHanded_of_row (C:=Tryz.checked) (s:=OpenSpec.ofChange Rows.wholeFullSpec) own started (by kernel_rfl) Tryz.func4
  (witness_row_at (enc:=enc) (C:=Tryz.checked) false (Hl os) #[(.int .i64 0),(.int .i64 0)] rfl (by kernel_rfl) (by kernel_rfl) (by kernel_rfl)
   (OpenSpec.preRow_of_cond 8 hx (by kernel_rfl) (fun k hk=>by cases hk) (by kernel_rfl) (Uk os))) ?_
 intro W base args ds gs before hval hW _ _ _ hL hS _
 exact contract H enc W base args ds gs before hval hW hL hS
theorem Cz {a b:Bool} (h:a=true) (k:b=true):(a && b)=true:=by rw [h,k];rfl
theorem closed:joinedFacts Tryz.prog 4 Tryz.f4 (OpenSpec.ofChange Rows.wholeFullSpec).bare Rows.wholeFullRow=true:=by
 unfold joinedFacts
 exact Cz (Cz (Cz (Cz (Cz (Cz (Cz (Cz (Cz (Cz (Cz (Cz (Cz (Cz (Cz (Cz (Cz (Cz (Cz (Cz (Cz (Cz (Cz (Cz (Cz (Cz (Cz (Cz (Cz (Cz (Cz (JO) JX) Kj) KE) KG) KH) KI) KJ) KL) IR) IU) IV) IW) IX) IY) IZ) Ja) Jb) Jc) Jd) Je) Jf) Jg) Jh) Ji) Jj) Jk) Jl) (by kernel_rfl)) Jm) Jn) Jo
theorem said:Rows.WholeFullSaid :=
 OpenClaim.holds_of_cond 4 Tryz.f4 rfl rfl rfl rfl rfl rfl rfl ⟨rfl,rfl,rfl,rfl,rfl⟩ rfl rfl rfl rfl rfl (by kernel_rfl) Tryz.func4 closed
  (of_decide_eq_true (by kernel_rfl)) (by unfold Func.isWrapper;first|(rw [if_pos (by decide +kernel)];kernel_rfl)|(rw [if_neg (by decide +kernel)];exact ⟨rfl,rfl⟩))
  (fun os started H enc _ F=>by rw [OpenClaim.pre_eq_preRow];exact lifted os started H enc F)
theorem plain (f : FuncId) (fn : Func) (hf : Tryz.pinned.checked.prog.funcNamed "pentimento/pentimentotop.WholeFull" = some f) (hfn : Tryz.pinned.checked.prog.funcs[f]? = some fn) :
  true=Tryz.pinned.checked.prog.looks []∧∀(j:Nat) t,fn.params[j]?=some t→Tryz.pinned.checked.prog.wantsStandIn t=false:=by
 obtain rfl : f = 4 := Option.some.inj ((show Tryz.prog.funcNamed "pentimento/pentimentotop.WholeFull" = some 4 by kernel_rfl).symm.trans hf) |>.symm
 obtain rfl:fn=Tryz.f4:=(Option.some.inj (Tryz.func4.symm.trans hfn)).symm
 refine ⟨FQ,fun j t ht=>?_⟩
 rw [Tryz.params4] at ht
 have hm:t∈#[3,3]:=Array.mem_of_getElem? ht
 have hm2:t=3∨t=3:=by simpa using hm
 rcases hm2 with rfl|rfl
 ·exact (show Tryz.prog.wantsStandIn 3=false by kernel_rfl)
 ·exact (show Tryz.prog.wantsStandIn 3=false by kernel_rfl)
theorem proved:Rows.WholeFullCardSaid :=
 Claim7.holds_tied_plain_at .later [] _ _ _ _ said (fun _ h=>by cases h) KM (fun _ h=>by cases h) Ey rfl ⟨rfl,rfl⟩ IG rfl plain Ih
end wholeFull
#print axioms wholeFull.proved
end Go.Proofs.YtkcolpfanmdmiaaGreatDoor