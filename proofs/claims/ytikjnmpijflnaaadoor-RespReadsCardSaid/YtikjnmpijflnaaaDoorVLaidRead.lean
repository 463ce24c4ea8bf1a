/- The package-level variables that the reading laws' rows list: what they give a walk, and a world that holds them. -/
import Derived.Test.YtikjnmpijflnaaaDoorVNum1
import Derived.Test.YtikjnmpijflnaaaDoorVRead
import Derived.Test.YtikjnmpijflnaaaDoorCards
import Derived.Test.YtikjnmpijflnaaaDoorTie
import Derived.WalkKit
import Derived.ProofKit
import Derived.OpenShut
import Derived.Deep.DeepHandedRow
import Derived.Lib.LaidTab
import Derived.LaidSub
import Derived.SevenTiedAt
import Derived.Stop.LaidErr
import Derived.Lib.LaidU8T
import Derived.PinnedBridge
import Derived.Shelf.Vars
import Derived.Test.YtikjnmpijflnaaaDoorVBytesIndex
import Derived.Test.YtikjnmpijflnaaaDoorVNumParse
namespace Go.Proofs.YtikjnmpijflnaaaDoor
open Go.V Go.ChangeShapes Go.WideShapes Go.ChangeAt Go.RowKit
theorem own : ownKnob Tryd.prog.godebug = none := by kernel_rfl
theorem laidOut : laidOutB Tryd.prog = true := by kernel_rfl
theorem gPow : Tryd.prog.globalNamed "internal/strconv.uint64pow10" = some 3 := by kernel_rfl
theorem gPowType : (Tryd.prog.globals[3]?).map (·.type) = some 149 := by kernel_rfl
theorem cellsPow : Tryd.prog.cellsOf 149 = 20 := by kernel_rfl
theorem cellsU64 : Tryd.prog.cellsOf 105 = 1 := by kernel_rfl
/-- the list that all rows of this seat bear -/
abbrev laidAll : List (String × DataW Unit) := [("math/bits.deBruijn32tab", Rows.laid_math_bits_deBruijn32tab), ("math/bits.deBruijn64tab", Rows.laid_math_bits_deBruijn64tab), ("internal/strconv.uint64pow10", Rows.laid_internal_strconv_uint64pow10), ("unicode/utf8.acceptRanges", Rows.laid_unicode_utf8_acceptRanges), ("strconv.ErrRange", Rows.laid_strconv_ErrRange), ("strconv.ErrSyntax", Rows.laid_strconv_ErrSyntax), ("unicode/utf8.first", Rows.laid_unicode_utf8_first)]
theorem met_of {W : World} (h : laidMetH Tryd.prog laidAll W) : laidMet Tryd.prog laidAll W := h
theorem pow_of {W : World} (h : laidMetH Tryd.prog laidAll W) : Pow W := by
  have h1 := laidMet.filter (fun x => x.1 == "internal/strconv.uint64pow10") (met_of h)
  exact Lib.tabIs_of_head (k := .u64) (zs := Lib.pow10Tab) (rest := []) gPow gPowType Tryd.underlying149 Tryd.underlying105 cellsU64 cellsPow h1
theorem gES : Tryd.prog.globalNamed "strconv.ErrSyntax" = some 4 := by kernel_rfl
theorem gEST : (Tryd.prog.globals[4]?).map (·.type) = some 117 := by kernel_rfl
theorem gER : Tryd.prog.globalNamed "strconv.ErrRange" = some 5 := by kernel_rfl
theorem gERT : (Tryd.prog.globals[5]?).map (·.type) = some 117 := by kernel_rfl
theorem cellsES : Tryd.prog.cellsOf 165 = 1 := by kernel_rfl
theorem cellsStr : Tryd.prog.cellsOf 9 = 1 := by kernel_rfl
theorem star : "*" ++ "errors.errorString" = "*errors.errorString" := by decide
theorem rowES (u : TypeId) (h : Tryd.prog.typeName? 3 u = some "*errors.errorString") : u = 163 :=
  typeName_ptr_named (nm := "errors.errorString") (by rw [star]; kernel_rfl) (by kernel_rfl) (by decide) u (by rw [star]; exact h)
theorem errs_of {W : World} (h : laidMetH Tryd.prog laidAll W) : Errs W := by
  have h1 := laidMet.filter (fun x => x.1 == "strconv.ErrSyntax") (met_of h)
  have h2 := laidMet.filter (fun x => x.1 == "strconv.ErrRange") (met_of h)
  obtain ⟨a1, s1, hv1, -, -, -⟩ := laid_sentinel h1 gES gEST Tryd.underlying117 rowES Tryd.underlying163 Tryd.underlying165 rfl rfl Tryd.underlying9 cellsES cellsStr
  obtain ⟨a2, s2, hv2, -, -, -⟩ := laid_sentinel h2 gER gERT Tryd.underlying117 rowES Tryd.underlying163 Tryd.underlying165 rfl rfl Tryd.underlying9 cellsES cellsStr
  exact ⟨_, _, _, _, hv1, hv2⟩
def ren8 : Go.Shelf.Ren := ⟨fun n => n, fun | 5 => 5 | 119 => 134 | 138 => 136 | 139 => 137 | n => n, fun | 3 => 1 | 4 => 2 | n => n⟩
theorem u8t : U8Types Tryd.prog ren8 := ⟨Tryd.underlying5, Tryd.underlying134, Tryd.underlying136, Tryd.underlying137⟩
theorem u8x : U8Extra Tryd.prog ren8 := ⟨by kernel_rfl, by kernel_rfl, by kernel_rfl, by kernel_rfl, by kernel_rfl, by kernel_rfl, by kernel_rfl⟩
theorem accept_eq : (Rows.laid_unicode_utf8_acceptRanges : DataW Unit) = Lib.acceptData := by kernel_rfl
theorem utf_of {W : World} (h : laidMetH Tryd.prog laidAll W) (hS : W.ShapedOpen Tryd.prog) : Utf W := by
  have hm := met_of h
  have h3 := Lib.laidMet.reads hm (.tail _ (.tail _ (.tail _ (.tail _ (.tail _ (.tail _ (.head _)))))))
  have h4 := Lib.laidMet.reads hm (.tail _ (.tail _ (.tail _ (.head _))))
  rw [show Rows.laid_unicode_utf8_first = Lib.firstData from Pinned.utf8First_eq] at h3
  rw [accept_eq] at h4
  exact ⟨utf8Tabs_of_readsT u8t u8x h3 h4, cell_of_shapedOpen_int (P := Tryd.prog) (g := 0) (t := 3) (zero := #[.int .i64 0]) hS (of_decide_eq_true (by kernel_rfl)) (by kernel_rfl) rfl (by kernel_rfl) (by kernel_rfl) Tryd.underlying3⟩
def setc (cs : Array Value) : Obj → Obj
  | .cells _ t frozen => .cells cs t frozen
  | o => o
def tab32 : Array Value := #[.int .u8 0, .int .u8 1, .int .u8 28, .int .u8 2, .int .u8 29, .int .u8 14, .int .u8 24, .int .u8 3, .int .u8 30, .int .u8 22, .int .u8 20, .int .u8 15, .int .u8 25, .int .u8 17, .int .u8 4, .int .u8 8, .int .u8 31, .int .u8 27, .int .u8 13, .int .u8 23, .int .u8 21, .int .u8 19, .int .u8 16, .int .u8 7, .int .u8 26, .int .u8 12, .int .u8 18, .int .u8 6, .int .u8 11, .int .u8 5, .int .u8 10, .int .u8 9]
def tab64 : Array Value := #[.int .u8 0, .int .u8 1, .int .u8 56, .int .u8 2, .int .u8 57, .int .u8 49, .int .u8 28, .int .u8 3, .int .u8 61, .int .u8 58, .int .u8 42, .int .u8 50, .int .u8 38, .int .u8 29, .int .u8 17, .int .u8 4, .int .u8 62, .int .u8 47, .int .u8 59, .int .u8 36, .int .u8 45, .int .u8 43, .int .u8 51, .int .u8 22, .int .u8 53, .int .u8 39, .int .u8 33, .int .u8 30, .int .u8 24, .int .u8 18, .int .u8 12, .int .u8 5, .int .u8 63, .int .u8 55, .int .u8 48, .int .u8 27, .int .u8 60, .int .u8 41, .int .u8 37, .int .u8 16, .int .u8 46, .int .u8 35, .int .u8 44, .int .u8 21, .int .u8 52, .int .u8 32, .int .u8 23, .int .u8 11, .int .u8 54, .int .u8 26, .int .u8 40, .int .u8 15, .int .u8 34, .int .u8 20, .int .u8 31, .int .u8 10, .int .u8 25, .int .u8 14, .int .u8 19, .int .u8 9, .int .u8 13, .int .u8 8, .int .u8 7, .int .u8 6]
def setAt (hp : Array Obj) (n : Nat) (cs : Array Value) : Array Obj := hp.modify n (setc cs)
def heap0 (hp : Array Obj) : Array Obj :=
  let h1 := setAt hp 3 (Lib.pow10Tab.map (Value.int .u64)).toArray
  let h2 := setAt h1 6 tab32
  let h3 := setAt h2 7 tab64
  let h4 := setAt h3 5 #[.iface 163 (.pointer (some ⟨hp.size, 0, none⟩))]
  let h5 := setAt h4 4 #[.iface 163 (.pointer (some ⟨hp.size + 1, 0, none⟩))]
  let h6 := setAt h5 1 ((List.range 256).map fun c => Value.int .u8 (Lib.firstT c)).toArray
  let h7 := setAt h6 2 ((List.range 16).flatMap fun i => [Value.int .u8 (Lib.accLo i), Value.int .u8 (Lib.accHi i)]).toArray
  (h7.push (.cells #[.string ⟨#[118, 97, 108, 117, 101, 32, 111, 117, 116, 32, 111, 102, 32, 114, 97, 110, 103, 101]⟩] 165)).push
    (.cells #[.string ⟨#[105, 110, 118, 97, 108, 105, 100, 32, 115, 121, 110, 116, 97, 120]⟩] 165)
noncomputable def laidWorld (os : Os) : World :=
  { World.holding Tryd.prog os ⟨#[], #[], []⟩ with heap := heap0 (World.holding Tryd.prog os ⟨#[], #[], []⟩).heap }
end Go.Proofs.YtikjnmpijflnaaaDoor
