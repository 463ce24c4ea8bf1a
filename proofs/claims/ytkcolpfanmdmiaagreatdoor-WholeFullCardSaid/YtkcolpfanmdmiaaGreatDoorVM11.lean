/- The package-level variables that the laws of the whole list: what they give a walk, and a world that holds them. -/
import Derived.Test.YtkcolpfanmdmiaaGreatDoorVM1
import Derived.Test.YtkcolpfanmdmiaaGreatDoorVM8
import Derived.Test.YtkcolpfanmdmiaaGreatDoorVM9
import Derived.Test.YtkcolpfanmdmiaaGreatDoorVM10
import Derived.Test.YtkcolpfanmdmiaaGreatDoorCards
import Derived.WalkKit
import Derived.ProofKit
import Derived.OpenShut
import Derived.Deep.DeepHandedRow
import Derived.Lib.LaidTab
import Derived.LaidSub
import Derived.SevenTiedAt
import Derived.Stop.LaidErr
import Derived.PinnedBridge
set_option maxHeartbeats 8000000
namespace Go.Proofs.YtkcolpfanmdmiaaGreatDoor
open Go.V Go.ChangeShapes Go.WideShapes Go.ChangeAt Go.RowKit
theorem own:ownKnob Tryz.prog.godebug=none:=by kernel_rfl
theorem gPow : Tryz.prog.globalNamed "internal/strconv.uint64pow10" = some 1 := by kernel_rfl
theorem Ua:(Tryz.prog.globals[1]?).map (·.type)=some 547:=by kernel_rfl
theorem TD:Tryz.prog.cellsOf 547=20:=by kernel_rfl
theorem TE:Tryz.prog.cellsOf 66=1:=by kernel_rfl
abbrev laidAll : List (String × DataW Unit) := [("strconv.ErrSyntax", Rows.laid_strconv_ErrSyntax), ("strconv.ErrRange", Rows.laid_strconv_ErrRange), ("internal/strconv.uint64pow10", Rows.laid_internal_strconv_uint64pow10), ("math/bits.deBruijn32tab", Rows.laid_math_bits_deBruijn32tab), ("math/bits.deBruijn64tab", Rows.laid_math_bits_deBruijn64tab)]
theorem PK {W:World} (h:laidMetH Tryz.prog laidAll W):laidMet Tryz.prog laidAll W:=h
theorem XJ {W:World} (h:laidMetH Tryz.prog laidAll W):Pow W:=by
 have h1 := laidMet.filter (fun x => x.1 == "internal/strconv.uint64pow10") (PK h)
 exact Lib.tabIs_of_head (k:=.u64) (zs:=Lib.pow10Tab) (rest:=[]) gPow Ua Tryz.underlying547 Tryz.underlying66 TE TD h1
theorem gES : Tryz.prog.globalNamed "strconv.ErrSyntax" = some 2 := by kernel_rfl
theorem gEST:(Tryz.prog.globals[2]?).map (·.type)=some 298:=by kernel_rfl
theorem gER : Tryz.prog.globalNamed "strconv.ErrRange" = some 3 := by kernel_rfl
theorem gERT:(Tryz.prog.globals[3]?).map (·.type)=some 298:=by kernel_rfl
theorem Qt:Tryz.prog.cellsOf 605=1:=by kernel_rfl
theorem Nu:Tryz.prog.cellsOf 9=1:=by kernel_rfl
theorem star : "*" ++ "errors.errorString" = "*errors.errorString" := by decide
theorem Xd (u : TypeId) (h : Tryz.prog.typeName? 3 u = some "*errors.errorString") : u = 603 :=
 typeName_ptr_named (nm := "errors.errorString") (by rw [star]; kernel_rfl) (by kernel_rfl) (by decide) u (by rw [star]; exact h)
theorem VJ {W:World} (h:laidMetH Tryz.prog laidAll W):CL W:=by
 have h1 := laidMet.filter (fun x => x.1 == "strconv.ErrSyntax") (PK h)
 have h2 := laidMet.filter (fun x => x.1 == "strconv.ErrRange") (PK h)
 obtain ⟨a1,s1,hv1,-,-,-⟩:=laid_sentinel h1 gES gEST Tryz.underlying298 Xd Tryz.underlying603 Tryz.underlying605 rfl rfl Tryz.underlying9 Qt Nu
 obtain ⟨a2,s2,hv2,-,-,-⟩:=laid_sentinel h2 gER gERT Tryz.underlying298 Xd Tryz.underlying603 Tryz.underlying605 rfl rfl Tryz.underlying9 Qt Nu
 exact ⟨_,_,_,_,hv1,hv2⟩
def setc (cs:Array Value):Obj→Obj
 | .cells _ t frozen=>.cells cs t frozen
 | o=>o
def tab32:Array Value:=#[.int .u8 0,.int .u8 1,.int .u8 28,.int .u8 2,.int .u8 29,.int .u8 14,.int .u8 24,.int .u8 3,.int .u8 30,.int .u8 22,.int .u8 20,.int .u8 15,.int .u8 25,.int .u8 17,.int .u8 4,.int .u8 8,.int .u8 31,.int .u8 27,.int .u8 13,.int .u8 23,.int .u8 21,.int .u8 19,.int .u8 16,.int .u8 7,.int .u8 26,.int .u8 12,.int .u8 18,.int .u8 6,.int .u8 11,.int .u8 5,.int .u8 10,.int .u8 9]
def tab64:Array Value:=#[.int .u8 0,.int .u8 1,.int .u8 56,.int .u8 2,.int .u8 57,.int .u8 49,.int .u8 28,.int .u8 3,.int .u8 61,.int .u8 58,.int .u8 42,.int .u8 50,.int .u8 38,.int .u8 29,.int .u8 17,.int .u8 4,.int .u8 62,.int .u8 47,.int .u8 59,.int .u8 36,.int .u8 45,.int .u8 43,.int .u8 51,.int .u8 22,.int .u8 53,.int .u8 39,.int .u8 33,.int .u8 30,.int .u8 24,.int .u8 18,.int .u8 12,.int .u8 5,.int .u8 63,.int .u8 55,.int .u8 48,.int .u8 27,.int .u8 60,.int .u8 41,.int .u8 37,.int .u8 16,.int .u8 46,.int .u8 35,.int .u8 44,.int .u8 21,.int .u8 52,.int .u8 32,.int .u8 23,.int .u8 11,.int .u8 54,.int .u8 26,.int .u8 40,.int .u8 15,.int .u8 34,.int .u8 20,.int .u8 31,.int .u8 10,.int .u8 25,.int .u8 14,.int .u8 19,.int .u8 9,.int .u8 13,.int .u8 8,.int .u8 7,.int .u8 6]
def setAt (hp:Array Obj) (n:Nat) (cs:Array Value):Array Obj:=hp.modify n (setc cs)
def heap0 (hp:Array Obj):Array Obj :=
 let h1:=setAt hp 1 (Lib.pow10Tab.map (Value.int .u64)).toArray
 let h2:=setAt h1 4 tab32
 let h3:=setAt h2 5 tab64
 let h4:=setAt h3 3 #[.iface 603 (.pointer (some ⟨hp.size,0,none⟩))]
 let h5:=setAt h4 2 #[.iface 603 (.pointer (some ⟨hp.size+1,0,none⟩))]
 (h5.push (.cells #[.string ⟨#[118,97,108,117,101,32,111,117,116,32,111,102,32,114,97,110,103,101]⟩] 605)).push
  (.cells #[.string ⟨#[105,110,118,97,108,105,100,32,115,121,110,116,97,120]⟩] 605)
noncomputable def Hl (os:Os):World :=
 { World.holding Tryz.prog os ⟨#[],#[],[]⟩ with heap:=heap0 (World.holding Tryz.prog os ⟨#[],#[],[]⟩).heap }
end Go.Proofs.YtkcolpfanmdmiaaGreatDoor
