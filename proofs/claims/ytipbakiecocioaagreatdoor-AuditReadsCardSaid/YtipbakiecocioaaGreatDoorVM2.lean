/- Texts of this proof laid together: Shelf, Num1, Read, RepBase, Str, Rows, Rows2, BytesCut, Bits, IterStr, BrAny, BytesAny, NumOrd, RepPlain, NumFit, NumRead, RepRd, BytesIndex, StrBase, StrRule, NumParse. -/
import Derived.Test.YtipbakiecocioaaGreatDoorVM1
import Derived.Shelf.SlGeneric
import Derived.Shelf.Strconv.ParseIntPublic10
import Derived.Ground.NamesProg
import Derived.Shelf.Spec.DecodeRune
import Derived.Ground.Names7Prog
import Derived.Shelf.Strconv.Itoa4
import Derived.Test.YtipbakiecocioaaGreatDoorProg
import Derived.Lib.AtoiErrMem
import Derived.ProofKit
import Derived.OpenShut
import Derived.ChangeOld
import Derived.Deep.Slices
import Derived.Laws.Strings2
import Derived.Laws.Externs
import Derived.Laws.CopyRow
import Derived.Lib.AppendZerosOnto
import Derived.Lib.Overlaps
import Derived.Lib.SlBytesConst
import Derived.Lib.OthersKept
import Derived.Scope
import Derived.Shelf.Strings.IndexAnyAll
import Derived.Lib.ItoaNum
import Derived.Lib.ParseIntB
import Derived.Shelf.Strconv.ErrVarParseInt
/- The library's sort and the like, laid at this program by the kit's tool. -/
namespace Go.Proofs
open Go.Shelf
def Tryz.layPI_ren : Go.Shelf.Ren := ⟨fun | 174 => 81 | 247 => 111 | 245 => 112 | 287 => 125 | 279 => 126 | 280 => 127 | 281 => 128 | 282 => 129 | 321 => 134 | 322 => 135 | 316 => 136 | 171 => 138 | 205 => 137 | 243 => 146 | 246 => 130 | 283 => 139 | 284 => 140 | 285 => 141 | 286 => 142 | 129 => 103 | 317 => 147 | 318 => 148 | 319 => 149 | 320 => 150 | 337 => 152 | 338 => 153 | n => n, fun | 9 => 9 | 3 => 3 | 2 => 2 | 75 => 147 | 85 => 148 | 4 => 4 | 167 => 191 | 5 => 5 | 53 => 151 | 175 => 192 | 46 => 134 | 168 => 194 | 37 => 22 | 0 => 0 | 210 => 200 | 21 => 21 | 127 => 206 | 145 => 209 | 143 => 207 | 171 => 202 | 173 => 204 | 212 => 211 | 51 => 169 | 20 => 20 | 213 => 212 | 232 => 215 | 233 => 216 | 80 => 217 | n => n, fun | 15 => 3 | 16 => 4 | 17 => 5 | 18 => 6 | 19 => 7 | n => n⟩
theorem Tryz.layPI : Go.Proofs.LaysC.n174 Tryz.prog Tryz.layPI_ren := {
  mixed := by kernel_rfl
  f129 := Tryz.func103.trans (congrArg some (by kernel_rfl))
  f171 := Tryz.func138.trans (congrArg some (by kernel_rfl))
  f174 := Tryz.func81.trans (congrArg some (by kernel_rfl))
  f205 := Tryz.func137.trans (congrArg some (by kernel_rfl))
  f243 := Tryz.func146.trans (congrArg some (by kernel_rfl))
  f245 := Tryz.func112.trans (congrArg some (by kernel_rfl))
  f246 := Tryz.func130.trans (congrArg some (by kernel_rfl))
  f247 := Tryz.func111.trans (congrArg some (by kernel_rfl))
  f279 := Tryz.func126.trans (congrArg some (by kernel_rfl))
  f280 := Tryz.func127.trans (congrArg some (by kernel_rfl))
  f281 := Tryz.func128.trans (congrArg some (by kernel_rfl))
  f282 := Tryz.func129.trans (congrArg some (by kernel_rfl))
  f283 := Tryz.func139.trans (congrArg some (by kernel_rfl))
  f284 := Tryz.func140.trans (congrArg some (by kernel_rfl))
  f285 := Tryz.func141.trans (congrArg some (by kernel_rfl))
  f286 := Tryz.func142.trans (congrArg some (by kernel_rfl))
  f287 := Tryz.func125.trans (congrArg some (by kernel_rfl))
  f316 := Tryz.func136.trans (congrArg some (by kernel_rfl))
  f317 := Tryz.func147.trans (congrArg some (by kernel_rfl))
  f318 := Tryz.func148.trans (congrArg some (by kernel_rfl))
  f319 := Tryz.func149.trans (congrArg some (by kernel_rfl))
  f320 := Tryz.func150.trans (congrArg some (by kernel_rfl))
  f321 := Tryz.func134.trans (congrArg some (by kernel_rfl))
  f322 := Tryz.func135.trans (congrArg some (by kernel_rfl))
  f337 := Tryz.func152.trans (congrArg some (by kernel_rfl))
  f338 := Tryz.func153.trans (congrArg some (by kernel_rfl))
  t0 := Tryz.underlying0
  a0 := Tryz.isAgg0
  z0 := Tryz.sizeOf0
  v0 := Tryz.zeroValue0
  t2 := Tryz.underlying2
  a2 := Tryz.isAgg2
  z2 := Tryz.sizeOf2
  v2 := Tryz.zeroValue2
  t3 := Tryz.underlying3
  a3 := Tryz.isAgg3
  z3 := Tryz.sizeOf3
  v3 := Tryz.zeroValue3
  t4 := Tryz.underlying4
  a4 := Tryz.isAgg4
  z4 := Tryz.sizeOf4
  v4 := Tryz.zeroValue4
  t5 := Tryz.underlying5
  a5 := Tryz.isAgg5
  z5 := Tryz.sizeOf5
  v5 := Tryz.zeroValue5
  t9 := Tryz.underlying9
  a9 := Tryz.isAgg9
  z9 := Tryz.sizeOf9
  v9 := Tryz.zeroValue9
  t20 := Tryz.underlying20
  a20 := Tryz.isAgg20
  z20 := Tryz.sizeOf20
  v20 := Tryz.zeroValue20
  t21 := Tryz.underlying21
  a21 := Tryz.isAgg21
  z21 := Tryz.sizeOf21
  v21 := Tryz.zeroValue21
  t37 := Tryz.underlying22
  a37 := Tryz.isAgg22
  z37 := Tryz.sizeOf22
  v37 := Tryz.zeroValue22
  t46 := Tryz.underlying134
  a46 := Tryz.isAgg134
  z46 := Tryz.sizeOf134
  v46 := Tryz.zeroValue134
  t51 := Tryz.underlying169
  a51 := Tryz.isAgg169
  z51 := Tryz.sizeOf169
  v51 := Tryz.zeroValue169
  t53 := Tryz.underlying151
  a53 := Tryz.isAgg151
  z53 := Tryz.sizeOf151
  v53 := Tryz.zeroValue151
  t75 := Tryz.underlying147
  a75 := Tryz.isAgg147
  z75 := Tryz.sizeOf147
  v75 := Tryz.zeroValue147
  t85 := Tryz.underlying148
  a85 := Tryz.isAgg148
  z85 := Tryz.sizeOf148
  v85 := Tryz.zeroValue148
  t127 := Tryz.underlying206
  a127 := Tryz.isAgg206
  z127 := Tryz.sizeOf206
  v127 := Tryz.zeroValue206
  t143 := Tryz.underlying207
  a143 := Tryz.isAgg207
  z143 := Tryz.sizeOf207
  v143 := Tryz.zeroValue207
  t145 := Tryz.underlying209
  a145 := Tryz.isAgg209
  z145 := Tryz.sizeOf209
  v145 := Tryz.zeroValue209
  t167 := Tryz.underlying191
  a167 := Tryz.isAgg191
  z167 := Tryz.sizeOf191
  v167 := Tryz.zeroValue191
  t168 := Tryz.underlying194
  a168 := Tryz.isAgg194
  z168 := Tryz.sizeOf194
  v168 := Tryz.zeroValue194
  t171 := Tryz.underlying202
  a171 := Tryz.isAgg202
  z171 := Tryz.sizeOf202
  v171 := Tryz.zeroValue202
  t173 := Tryz.underlying204
  a173 := Tryz.isAgg204
  z173 := Tryz.sizeOf204
  v173 := Tryz.zeroValue204
  t175 := Tryz.underlying192
  a175 := Tryz.isAgg192
  z175 := Tryz.sizeOf192
  v175 := Tryz.zeroValue192
  t210 := Tryz.underlying200
  a210 := Tryz.isAgg200
  z210 := Tryz.sizeOf200
  v210 := Tryz.zeroValue200
  t212 := Tryz.underlying211
  a212 := Tryz.isAgg211
  z212 := Tryz.sizeOf211
  v212 := Tryz.zeroValue211
  t213 := Tryz.underlying212
  a213 := Tryz.isAgg212
  z213 := Tryz.sizeOf212
  t232 := Tryz.underlying215
  a232 := Tryz.isAgg215
  z232 := Tryz.sizeOf215
  v232 := Tryz.zeroValue215
  t233 := Tryz.underlying216
  a233 := Tryz.isAgg216
  z233 := Tryz.sizeOf216
  v233 := Tryz.zeroValue216
  g15 := by kernel_rfl
  g16 := by kernel_rfl
  g17 := by kernel_rfl
  g18 := by kernel_rfl
  g19 := by kernel_rfl
  t80 := Tryz.underlying217
  a80 := Tryz.isAgg217
  z80 := Tryz.sizeOf217
  v80 := Tryz.zeroValue217
  i0 := by kernel_rfl
  i2 := by kernel_rfl
  i3 := by kernel_rfl
  i4 := by kernel_rfl
  i5 := by kernel_rfl
  i9 := by kernel_rfl
  i20 := by kernel_rfl
  i21 := by kernel_rfl
  i37 := by kernel_rfl
  i46 := by kernel_rfl
  i51 := by kernel_rfl
  i53 := by kernel_rfl
  i75 := by kernel_rfl
  i80 := by kernel_rfl
  i85 := by kernel_rfl
  i127 := by kernel_rfl
  i143 := by kernel_rfl
  i145 := by kernel_rfl
  i167 := by kernel_rfl
  i168 := by kernel_rfl
  i171 := by kernel_rfl
  i173 := by kernel_rfl
  i175 := by kernel_rfl
  i210 := by kernel_rfl
  i212 := by kernel_rfl
  i232 := by kernel_rfl
  i233 := by kernel_rfl
  m15 := by kernel_rfl
  m16 := by kernel_rfl
  m17 := by kernel_rfl
  m18 := by kernel_rfl
  m19 := by kernel_rfl
  c0 := by kernel_rfl
  c2 := by kernel_rfl
  c3 := by kernel_rfl
  c4 := by kernel_rfl
  c5 := by kernel_rfl
  c9 := by kernel_rfl
  c20 := by kernel_rfl
  c21 := by kernel_rfl
  c37 := by kernel_rfl
  c46 := by kernel_rfl
  c51 := by kernel_rfl
  c53 := by kernel_rfl
  c75 := by kernel_rfl
  c80 := by kernel_rfl
  c85 := by kernel_rfl
  c127 := by kernel_rfl
  c143 := by kernel_rfl
  c145 := by kernel_rfl
  c167 := by kernel_rfl
  c168 := by kernel_rfl
  c171 := by kernel_rfl
  c173 := by kernel_rfl
  c175 := by kernel_rfl
  c210 := by kernel_rfl
  c212 := by kernel_rfl
  c213 := by kernel_rfl
  c232 := by kernel_rfl
  c233 := by kernel_rfl }
def Tryz.layDR_ren : Go.Shelf.Ren := ⟨fun | 32 => 79 | 49 => 110 | n => n, fun | 30 => 22 | 21 => 21 | 3 => 3 | 0 => 0 | 5 => 5 | 4 => 4 | 33 => 144 | 66 => 187 | 25 => 134 | 69 => 190 | 68 => 189 | n => n, fun | 2 => 1 | 3 => 2 | n => n⟩
theorem Tryz.layDR : Go.Proofs.Lays7.n32 Tryz.prog Tryz.layDR_ren := {
  mixed := by kernel_rfl
  f32 := Tryz.func79.trans (congrArg some (by kernel_rfl))
  f49 := Tryz.func110.trans (congrArg some (by kernel_rfl))
  t0 := Tryz.underlying0
  a0 := Tryz.isAgg0
  z0 := Tryz.sizeOf0
  v0 := Tryz.zeroValue0
  i0 := by kernel_rfl
  t3 := Tryz.underlying3
  a3 := Tryz.isAgg3
  z3 := Tryz.sizeOf3
  v3 := Tryz.zeroValue3
  i3 := by kernel_rfl
  t4 := Tryz.underlying4
  a4 := Tryz.isAgg4
  z4 := Tryz.sizeOf4
  v4 := Tryz.zeroValue4
  i4 := by kernel_rfl
  t5 := Tryz.underlying5
  a5 := Tryz.isAgg5
  z5 := Tryz.sizeOf5
  v5 := Tryz.zeroValue5
  i5 := by kernel_rfl
  t21 := Tryz.underlying21
  a21 := Tryz.isAgg21
  z21 := Tryz.sizeOf21
  v21 := Tryz.zeroValue21
  i21 := by kernel_rfl
  t25 := Tryz.underlying134
  a25 := Tryz.isAgg134
  z25 := Tryz.sizeOf134
  v25 := Tryz.zeroValue134
  i25 := by kernel_rfl
  t30 := Tryz.underlying22
  a30 := Tryz.isAgg22
  z30 := Tryz.sizeOf22
  v30 := Tryz.zeroValue22
  i30 := by kernel_rfl
  t33 := Tryz.underlying144
  a33 := Tryz.isAgg144
  z33 := Tryz.sizeOf144
  v33 := Tryz.zeroValue144
  i33 := by kernel_rfl
  t66 := Tryz.underlying187
  a66 := Tryz.isAgg187
  z66 := Tryz.sizeOf187
  t68 := Tryz.underlying189
  a68 := Tryz.isAgg189
  z68 := Tryz.sizeOf189
  v68 := Tryz.zeroValue189
  i68 := by kernel_rfl
  t69 := Tryz.underlying190
  a69 := Tryz.isAgg190
  z69 := Tryz.sizeOf190
  v69 := Tryz.zeroValue190
  i69 := by kernel_rfl
  g2 := by kernel_rfl
  g3 := by kernel_rfl }
def Tryz.layFI_ren : Go.Shelf.Ren := ⟨fun | 173 => 113 | 246 => 130 | 283 => 139 | 284 => 140 | 285 => 141 | 286 => 142 | 129 => 103 | 317 => 147 | 318 => 148 | 319 => 149 | 320 => 150 | 337 => 152 | 338 => 153 | n => n, fun | 2 => 2 | 3 => 3 | 9 => 9 | 4 => 4 | 171 => 202 | 0 => 0 | 53 => 151 | 37 => 22 | 5 => 5 | 173 => 204 | 212 => 211 | 51 => 169 | 20 => 20 | 213 => 212 | 46 => 134 | 232 => 215 | 233 => 216 | n => n, fun | 17 => 5 | 18 => 6 | 19 => 7 | n => n⟩
theorem Tryz.layFI : Go.Proofs.LaysM.n173 Tryz.prog Tryz.layFI_ren := {
  mixed := by kernel_rfl
  f129 := Tryz.func103.trans (congrArg some (by kernel_rfl))
  f173 := Tryz.func113.trans (congrArg some (by kernel_rfl))
  f246 := Tryz.func130.trans (congrArg some (by kernel_rfl))
  f283 := Tryz.func139.trans (congrArg some (by kernel_rfl))
  f284 := Tryz.func140.trans (congrArg some (by kernel_rfl))
  f285 := Tryz.func141.trans (congrArg some (by kernel_rfl))
  f286 := Tryz.func142.trans (congrArg some (by kernel_rfl))
  f317 := Tryz.func147.trans (congrArg some (by kernel_rfl))
  f318 := Tryz.func148.trans (congrArg some (by kernel_rfl))
  f319 := Tryz.func149.trans (congrArg some (by kernel_rfl))
  f320 := Tryz.func150.trans (congrArg some (by kernel_rfl))
  f337 := Tryz.func152.trans (congrArg some (by kernel_rfl))
  f338 := Tryz.func153.trans (congrArg some (by kernel_rfl))
  t0 := Tryz.underlying0
  a0 := Tryz.isAgg0
  z0 := Tryz.sizeOf0
  v0 := Tryz.zeroValue0
  t2 := Tryz.underlying2
  a2 := Tryz.isAgg2
  z2 := Tryz.sizeOf2
  v2 := Tryz.zeroValue2
  t3 := Tryz.underlying3
  a3 := Tryz.isAgg3
  z3 := Tryz.sizeOf3
  v3 := Tryz.zeroValue3
  t4 := Tryz.underlying4
  a4 := Tryz.isAgg4
  z4 := Tryz.sizeOf4
  v4 := Tryz.zeroValue4
  t5 := Tryz.underlying5
  a5 := Tryz.isAgg5
  z5 := Tryz.sizeOf5
  v5 := Tryz.zeroValue5
  t9 := Tryz.underlying9
  a9 := Tryz.isAgg9
  z9 := Tryz.sizeOf9
  v9 := Tryz.zeroValue9
  t20 := Tryz.underlying20
  a20 := Tryz.isAgg20
  z20 := Tryz.sizeOf20
  v20 := Tryz.zeroValue20
  t37 := Tryz.underlying22
  a37 := Tryz.isAgg22
  z37 := Tryz.sizeOf22
  v37 := Tryz.zeroValue22
  t46 := Tryz.underlying134
  a46 := Tryz.isAgg134
  z46 := Tryz.sizeOf134
  v46 := Tryz.zeroValue134
  t51 := Tryz.underlying169
  a51 := Tryz.isAgg169
  z51 := Tryz.sizeOf169
  v51 := Tryz.zeroValue169
  t53 := Tryz.underlying151
  a53 := Tryz.isAgg151
  z53 := Tryz.sizeOf151
  v53 := Tryz.zeroValue151
  t171 := Tryz.underlying202
  a171 := Tryz.isAgg202
  z171 := Tryz.sizeOf202
  v171 := Tryz.zeroValue202
  t173 := Tryz.underlying204
  a173 := Tryz.isAgg204
  z173 := Tryz.sizeOf204
  v173 := Tryz.zeroValue204
  t212 := Tryz.underlying211
  a212 := Tryz.isAgg211
  z212 := Tryz.sizeOf211
  v212 := Tryz.zeroValue211
  t213 := Tryz.underlying212
  a213 := Tryz.isAgg212
  z213 := Tryz.sizeOf212
  t232 := Tryz.underlying215
  a232 := Tryz.isAgg215
  z232 := Tryz.sizeOf215
  v232 := Tryz.zeroValue215
  t233 := Tryz.underlying216
  a233 := Tryz.isAgg216
  z233 := Tryz.sizeOf216
  v233 := Tryz.zeroValue216
  g17 := by kernel_rfl
  g18 := by kernel_rfl
  g19 := by kernel_rfl
  i0 := by kernel_rfl
  i2 := by kernel_rfl
  i3 := by kernel_rfl
  i4 := by kernel_rfl
  i5 := by kernel_rfl
  i9 := by kernel_rfl
  i20 := by kernel_rfl
  i37 := by kernel_rfl
  i46 := by kernel_rfl
  i51 := by kernel_rfl
  i53 := by kernel_rfl
  i171 := by kernel_rfl
  i173 := by kernel_rfl
  i212 := by kernel_rfl
  i232 := by kernel_rfl
  i233 := by kernel_rfl
  m17 := by kernel_rfl
  m18 := by kernel_rfl
  m19 := by kernel_rfl }
end Go.Proofs

/- Layer 1: numbers and their decimal forms, by the shelf's contracts. -/
namespace Go.V
open Go.RowKit
section
variable {P : Program} {n : Nat} {ops : Array Oper} {dr : Nat × List Nat} {l : List Oper} {E : Env} {w : World} {K : Env → World → Prop}
variable {d : Option Nat} {ty : TypeId} {pos : String} {af : Array Edge} {g : Option (Nat × Bool)} {x : Operand} {t t' tp : TypeId} {ms : Array (String × TypeId)} {v : Value}
theorem G1_errNil (hu : P.underlying t = some (.interface ms)) (hx : E.look x = some .nilIface) (hd : dstOk n d = true) (h : G P n ops dr l (E.put d (.bool false)) w K) : G1 P n ops dr ⟨d, .binOp .neq t x (.const .nilIface) t', ty, pos, af, g⟩ l E w K :=
  G1_quiet _ hd (fun a ha w' _ => by
    have e0 : a.eval (.const .nilIface) = .nilIface := rfl
    have key : ∀ k, (Op.equalIn (k + 1) t .nilIface .nilIface).run P w' = .ok true w' := fun k => by rw [Op.equalIn]; simp [run_underlying hu]
    have e1 : (Op.equal t .nilIface .nilIface).run P w' = .ok true w' := key 9999
    simp [execOp, ha.eval hx, e0, eqGuard, binOp, e1]) h
theorem G1_errNot (hu : P.underlying t = some (.interface ms)) (hx : E.look x = some (.iface tp v)) (hd : dstOk n d = true) (h : G P n ops dr l (E.put d (.bool true)) w K) : G1 P n ops dr ⟨d, .binOp .neq t x (.const .nilIface) t', ty, pos, af, g⟩ l E w K :=
  G1_quiet _ hd (fun a ha w' _ => by
    have e0 : a.eval (.const .nilIface) = .nilIface := rfl
    have key : ∀ k, (Op.equalIn (k + 1) t (.iface tp v) .nilIface).run P w' = .ok false w' := fun k => by rw [Op.equalIn]; simp [run_underlying hu]
    have e1 : (Op.equal t (.iface tp v) .nilIface).run P w' = .ok false w' := key 9999
    simp [execOp, ha.eval hx, e0, eqGuard, binOp, e1]) h
end
theorem Ext.grow {w : World} (k : Nat) (os : Array Obj) : Ext w (Sort.grow (w.drewN k) os) :=
  ⟨rfl, rfl, rfl, by simp [Sort.grow, World.drewN], fun i hi => by simp only [Sort.grow, World.drewN]; rw [Array.getElem?_append_left hi]⟩
theorem TabIs.ext {P : Program} {w w' : World} {name : String} {k : IntKind} {zs : List Int} (h : Lib.TabIs P w name k zs) (hx : Ext w w') : Lib.TabIs P w' name k zs := by
  unfold Lib.TabIs World.var? at *
  cases hg : P.globalNamed name with
  | none => simp [hg] at h
  | some g =>
    simp only [hg, Option.bind_some] at *
    cases hb : w.heap[g]? with
    | none => rw [hb] at h; cases h
    | some o => rw [hx.blk hb]; rw [hb] at h; exact h
theorem var_ext {P : Program} {w w' : World} {name : String} {cs : Array Value} (h : w.var? P name = some cs) (hx : Ext w w') : w'.var? P name = some cs := by
  unfold World.var? at *
  cases hg : P.globalNamed name with
  | none => simp [hg] at h
  | some g =>
    simp only [hg, Option.bind_some] at *
    cases hb : w.heap[g]? with
    | none => rw [hb] at h; cases h
    | some o => rw [hx.blk hb]; rw [hb] at h; exact h
end Go.V
namespace Go.Proofs.YtipbakiecocioaaGreatDoor
open Go.V
attribute [local irreducible] Blk Own hcell IntT SliceT PlainT AggT SizeT StrT FieldT ZeroT EqT ArrT
abbrev Pow (w : World) : Prop := Lib.TabIs Tryz.prog w "internal/strconv.uint64pow10" .u64 Lib.pow10Tab
def itoaB (n : Int) : ByteArray := ⟨(Lib.itoa n).toArray⟩
theorem pi_ok {s : ByteArray} {v : Int} {w : World} (hs : s.size ≤ 1000000) (h : Lib.parseIntB 64 s.data.toList = .ok v) : Ctr Tryz.prog 81 [.string s, .int .i64 10, .int .i64 64] w (fun r w' => r = .tuple #[.int .i64 v, .nilIface] ∧ Ext w w') := by
  unfold Ctr
  refine ⟨⟨Tryz.f81, Tryz.func81, by decide, rfl⟩, ?_⟩
  refine Calls.mono (Any.strconv_ParseInt_10_at64_ok Tryz.layPI s (by omega) v h w) fun e w' ⟨he, hw⟩ => ⟨_, he, rfl, ?_⟩
  rcases hw with rfl | ⟨t, rfl⟩
  · exact Ext.rfl'
  · exact Lib.bytesWorld_below _ _ _
theorem print_spec {n : Int} {w : World} (h0 : -9223372036854775808 ≤ n) (h1 : n ≤ 9223372036854775807) (hT : Pow w) : Ctr Tryz.prog 82 [.int .i64 n] w (fun r w' => r = .string (itoaB n) ∧ Ext w w') := by
  have hF : Ctr Tryz.prog 113 [.int .i64 n, .int .i64 10] w (fun r w' => r = .string (itoaB n) ∧ Ext w w') := by
    unfold Ctr
    refine ⟨⟨Tryz.f113, Tryz.func113, by decide, rfl⟩, ?_⟩
    refine Calls.mono (Any.strconv_FormatInt_10 Tryz.layFI n h0 h1 w hT) fun e w' ⟨he, k, os, hw⟩ => ⟨_, he, rfl, ?_⟩
    rw [hw]; exact Ext.grow k os
  refine Ctr_of Tryz.func82 Tryz.ntmps82 rfl rfl rfl ?_
  repeat' (first | (apply G_on; exact rfl; first | ((first | apply G1_assign | apply G1_move); exact rfl; exact rfl) | (apply G1_call (f := 113); exact rfl; exact rfl; exact rfl; exact hF; rintro _ w2 ⟨rfl, hx2⟩; refine ⟨(by first | exact .inl rfl | exact .inr (by assumption)), ?_⟩)) | apply G_nil | apply Post_next | apply W_seq | apply W_region | (apply W_cond_true; exact rfl) | (apply W_cond_false; exact rfl) | (apply W_cond_dec; exact rfl; all_goals (intro h; try (exfalso; omega))) | (apply W_cond; exact rfl; all_goals intro h) | (apply G_off; exact rfl; exact rfl) | ((fail_if_success (apply G_on; exact rfl)); apply G_split_dec; exact rfl; exact rfl; all_goals (intro h; try (exfalso; omega))) | ((fail_if_success (apply G_on; exact rfl)); apply G_split; exact rfl; exact rfl; all_goals intro h) | apply W_skip | apply W_exit | apply W_ret | apply W_block | apply Post_then_ret | apply Post_block_ret | apply Post_then_exit | apply Post_block_exit | (apply Post_block_other; exact rfl) | apply Post_block_normal)
  refine Post_ret Tryz.results82 ⟨_, _, rfl, rfl, rfl⟩ ?_
  exact ⟨rfl, (by repeat first | assumption | exact Ext.rfl' | apply Ext.drew | apply Ext.alloc | refine Ext.trans ?_ (by assumption))⟩
theorem parse_ok {s : ByteArray} {v : Int} {w : World} (hs : s.size ≤ 20) (hpi : Lib.parseIntB 64 s.data.toList = .ok v) (h0 : -9223372036854775808 ≤ v) (h1 : v ≤ 9223372036854775807) (hi : itoaB v = s) (hT : Pow w) : Ctr Tryz.prog 44 [.string s] w (fun r w' => r = .tuple #[.int .i64 v, .bool true] ∧ Ext w w') := by
  refine Ctr_of Tryz.func44 Tryz.ntmps44 rfl rfl rfl ?_
  repeat' (first | (apply G_on; exact rfl; first | ((first | apply G1_assign | apply G1_move); exact rfl; exact rfl) | (apply G1_call (f := 81); exact rfl; exact rfl; exact rfl; exact pi_ok (by omega) hpi; rintro _ w2 ⟨rfl, hx2⟩; refine ⟨(by first | exact .inl rfl | exact .inr (by assumption)), ?_⟩) | (apply G1_errNil; exact Tryz.underlying147; exact rfl; exact rfl) | (apply G1_slen; exact T.str9; exact rfl; exact rfl) | ((first | apply G1_gtr | apply G1_extract | apply G1_sneq); exact rfl; exact rfl; exact rfl)) | apply G_nil | apply Post_next | apply W_seq | apply W_region | (apply W_cond_true; exact rfl) | (apply W_cond_false; exact rfl) | (apply W_cond_dec; exact rfl; all_goals (intro h; try (exfalso; omega))) | (apply W_cond; exact rfl; all_goals intro h) | (apply G_off; exact rfl; exact rfl) | ((fail_if_success (apply G_on; exact rfl)); apply G_split_dec; exact rfl; exact rfl; all_goals (intro h; try (exfalso; omega))) | ((fail_if_success (apply G_on; exact rfl)); apply G_split; exact rfl; exact rfl; all_goals intro h) | apply W_skip | apply W_exit | apply W_ret | apply W_block | apply Post_then_ret | apply Post_block_ret | apply Post_then_exit | apply Post_block_exit | (apply Post_block_other; exact rfl) | apply Post_block_normal)
  apply G_on; exact rfl; apply G1_call; exact rfl; exact rfl; exact rfl; exact print_spec h0 h1 (TabIs.ext hT hx2); rintro _ w3 ⟨rfl, hx3⟩; refine ⟨(by first | exact .inl rfl | exact .inr (by assumption)), ?_⟩
  repeat' (first | (apply G_on; exact rfl; first | ((first | apply G1_assign | apply G1_move); exact rfl; exact rfl) | (apply G1_slen; exact T.str9; exact rfl; exact rfl) | ((first | apply G1_gtr | apply G1_extract | apply G1_sneq); exact rfl; exact rfl; exact rfl)) | apply G_nil | apply Post_next | apply W_seq | apply W_region | (apply W_cond_true; exact rfl) | (apply W_cond_false; exact rfl) | (apply W_cond_dec; exact rfl; all_goals (intro h; try (exfalso; omega))) | (apply W_cond; exact rfl; all_goals intro h) | (apply G_off; exact rfl; exact rfl) | ((fail_if_success (apply G_on; exact rfl)); apply G_split_dec; exact rfl; exact rfl; all_goals (intro h; try (exfalso; omega))) | ((fail_if_success (apply G_on; exact rfl)); apply G_split; exact rfl; exact rfl; all_goals intro h) | apply W_skip | apply W_exit | apply W_ret | apply W_block | apply Post_then_ret | apply Post_block_ret | apply Post_then_exit | apply Post_block_exit | (apply Post_block_other; exact rfl) | apply Post_block_normal)
  all_goals try contradiction
  refine Post_ret Tryz.results44 ⟨_, _, rfl, rfl, _, _, rfl, rfl, rfl⟩ ?_
  exact ⟨rfl, (by repeat first | assumption | exact Ext.rfl' | apply Ext.drew | apply Ext.alloc | refine Ext.trans ?_ (by assumption))⟩
end Go.Proofs.YtipbakiecocioaaGreatDoor

/- From the reading of the arguments to slices that read as lists; the frame of a law's proof. -/
namespace Go.V
open Go.RowKit Go.ChangeShapes Go.WideShapes Go.ChangeAt

theorem list_of {α : Type} {Q : Nat → α → Prop} : ∀ n, (∀ i, i < n → ∃ x, Q i x) → ∃ xs : List α, xs.length = n ∧ ∀ i x, xs[i]? = some x → Q i x
  | 0, _ => ⟨[], rfl, fun i x h => by simp at h⟩
  | n + 1, h => by
    obtain ⟨xs, hl, hq⟩ := list_of n (fun i hi => h i (by omega))
    obtain ⟨x, hx⟩ := h n (by omega)
    refine ⟨xs ++ [x], by simp [hl], fun i y hy => ?_⟩
    by_cases hi : i < xs.length
    · rw [List.getElem?_append_left hi] at hy; exact hq i y hy
    · rw [List.getElem?_append_right (by omega)] at hy
      have h0 : i - xs.length = 0 := by have := get_lt hy; simp at this; omega
      rw [h0] at hy
      simp at hy
      subst hy
      have : i = n := by omega
      subst this
      exact hx

section
variable {H : Type} {enc : TypeId × Value → H} {P : Program} {w : World}

theorem read_slice {α : Type} (en : Enc α) (Good : α → Prop) {t e : TypeId} (ht : P.underlying t = some (.slice e)) (hc : P.cellsOf e = en.sz)
    (dec : ∀ n cs z, DataW.trod enc P w 0 (fun _ => true) true n e cs = some z → ∃ x, cs = en.enc x ∧ Good x)
    {fuel : Nat} {cs : List Value} {x : DataW H × List MemPlace} (h : DataW.trod enc P w 0 (fun _ => true) true fuel t cs = some x) :
    ∃ p c xs, cs = [.slice p xs.length c] ∧ Sl w.heap en p c xs ∧ ∀ y ∈ xs, Good y := by
  rcases Deep.open_slice ht h with ⟨rfl, _⟩ | ⟨a, len, cap, m, n, D, Pl, rfl, _, hl, hm, hmm, _, hx⟩
  · exact ⟨none, 0, [], rfl, Sl.nil, by simp⟩
  · simp only [if_true] at hmm
    subst hmm
    rw [hc] at hx
    have key : ∀ i, i < m → ∃ y, (∀ k v, (en.enc y)[k]? = some v → w.cell? ((a.add (i * en.sz)).add k) = some v) ∧ Good y := by
      intro i hi
      obtain ⟨cs', h1, h2⟩ := hx i hi
      obtain ⟨y, rfl, hg⟩ := dec _ _ _ h2
      refine ⟨y, fun k v hv => ?_, hg⟩
      obtain ⟨_, h3, h4⟩ := World.cells?_some h1
      have hk := get_lt hv
      rw [h4 k (by omega)]; exact hv
    have hspot : 0 < m → a.spot = none := by
      intro hpos
      obtain ⟨y, hy, _⟩ := key 0 hpos
      have hlen : 0 < (en.enc y).length := by rw [en.len]; exact en.pos
      have := hy 0 _ (List.getElem?_eq_getElem hlen)
      simp only [Nat.zero_mul] at this
      have e0 : (a.add 0).add 0 = a := by simp [Addr.add]
      rw [e0] at this
      exact World.cell?_spot this
    obtain ⟨xs, hxl, hxs⟩ := list_of len (fun i hi => key i (by omega))
    refine ⟨some a, m, xs, by rw [hxl], ⟨⟨by omega, hm, (fun h => by cases h), fun b hb hpos => ?_⟩, fun i y hi k v hv => ?_⟩, fun y hy => ?_⟩
    · injection hb with hb; subst hb; exact hspot hpos
    · have h1 := (hxs i y hi).1 k v hv
      have hi' := get_lt hi
      have hs := hspot (by omega)
      obtain ⟨b, o, s⟩ := a
      simp only at hs
      subst hs
      rw [addr_add, addr_add] at h1
      rw [← cell_eq]
      simpa [adr, Nat.add_assoc] using h1
    · obtain ⟨i, hi⟩ := List.getElem?_of_mem hy
      exact (hxs i y hi).2

theorem read_str {t : TypeId} (ht : P.underlying t = some .string) (n : Nat) (cs : List Value) (z : DataW H × List MemPlace) (h : DataW.trod enc P w 0 (fun _ => true) true n t cs = some z) : ∃ x, cs = eStr.enc x ∧ x.size ≤ maxLen := by
  obtain ⟨s, h1, _, h2⟩ := DataW.trod_string ht h
  exact ⟨s, h1, h2⟩

theorem read_int {t : TypeId} (ht : P.underlying t = some (.int .i64)) (n : Nat) (cs : List Value) (z : DataW H × List MemPlace) (h : DataW.trod enc P w 0 (fun _ => true) true n t cs = some z) : ∃ x, cs = eInt.enc x ∧ (-9223372036854775808 ≤ x ∧ x ≤ 9223372036854775807) := by
  obtain ⟨s, h1, _, h2⟩ := DataW.trod_int ht h
  exact ⟨s, h1, by simpa [Lit.wf, IntKind.min, IntKind.max, IntKind.bits, IntKind.signed] using h2⟩

theorem read_byte {t : TypeId} (ht : P.underlying t = some (.int .u8)) (n : Nat) (cs : List Value) (z : DataW H × List MemPlace) (h : DataW.trod enc P w 0 (fun _ => true) true n t cs = some z) : ∃ x, cs = eByte.enc x ∧ True := by
  obtain ⟨s, h1, _, h2⟩ := DataW.trod_int ht h
  have hb : 0 ≤ s ∧ s ≤ 255 := by simpa [Lit.wf, IntKind.min, IntKind.max, IntKind.bits, IntKind.signed] using h2
  refine ⟨UInt8.ofNat s.toNat, ?_, trivial⟩
  rw [h1]
  have : (UInt8.ofNat s.toNat).toNat = s.toNat := by simp; omega
  have h3 : ((UInt8.ofNat s.toNat).toNat : Int) = s := by rw [this]; omega
  simp only [eByte, h3]

/-- a struct of two fields of one cell each -/
theorem read_two {t : TypeId} {f0 f1 : Field} (ht : P.underlying t = some (.struct #[f0, f1])) (o0 : f0.offset = 0) (o1 : f1.offset = 1) (c : P.cellsOf t = 2) (c0 : P.cellsOf f0.type = 1) (c1 : P.cellsOf f1.type = 1)
    {n : Nat} {cs : List Value} {z : DataW H × List MemPlace} (h : DataW.trod enc P w 0 (fun _ => true) true n t cs = some z) :
    ∃ a b m z0 z1, cs = [a, b] ∧ DataW.trod enc P w 0 (fun _ => true) true m f0.type [a] = some z0 ∧ DataW.trod enc P w 0 (fun _ => true) true m f1.type [b] = some z1 := by
  obtain ⟨xs, m, _, _, hl, hxl, hf⟩ := DataW.trod_struct ht h
  rw [c] at hl
  match cs, hl with
  | [a, b], _ =>
    have h0 := hf 0 f0 rfl
    have h1 := hf 1 f1 rfl
    rw [o0, c0] at h0
    rw [o1, c1] at h1
    simp only [List.size_toArray, List.length_cons, List.length_nil, Nat.zero_add] at hxl
    match xs, hxl with
    | [x0, x1], _ => exact ⟨a, b, m, x0, x1, rfl, by simpa using h0, by simpa using h1⟩

theorem arg_str {t : TypeId} {v : Value} {d : DataW H} {ps : List MemPlace} {r : Reach} {base : Nat} (ht : P.underlying t = some .string) (hv : Value.okWide P w r base t v) (h : DataW.Trod enc P w 0 (fun _ => true) true t v d ps) : ∃ s, v = .string s ∧ s.size ≤ maxLen := by
  obtain ⟨s, rfl⟩ := okWide_string ht hv
  obtain ⟨n, h⟩ := h
  obtain ⟨x, hx, hs⟩ := read_str ht _ _ _ h
  simp [Value.cells, eStr] at hx
  subst hx
  exact ⟨s, rfl, hs⟩

theorem arg_int {t : TypeId} {v : Value} {d : DataW H} {ps : List MemPlace} {r : Reach} {base : Nat} (ht : P.underlying t = some (.int .i64)) (hv : Value.okWide P w r base t v) (h : DataW.Trod enc P w 0 (fun _ => true) true t v d ps) : ∃ x, v = .int .i64 x ∧ (-9223372036854775808 ≤ x ∧ x ≤ 9223372036854775807) := by
  obtain ⟨s, rfl⟩ := okWide_int ht hv
  obtain ⟨n, h⟩ := h
  obtain ⟨x, hx, hs⟩ := read_int ht _ _ _ h
  simp [Value.cells, eInt] at hx
  subst hx
  exact ⟨s, rfl, hs⟩

theorem arg_slice {α : Type} (en : Enc α) (Good : α → Prop) {t e : TypeId} {v : Value} {d : DataW H} {ps : List MemPlace} {r : Reach} {base : Nat} (ht : P.underlying t = some (.slice e)) (hc : P.cellsOf e = en.sz)
    (dec : ∀ n cs z, DataW.trod enc P w 0 (fun _ => true) true n e cs = some z → ∃ x, cs = en.enc x ∧ Good x)
    (hv : Value.okWide P w r base t v) (h : DataW.Trod enc P w 0 (fun _ => true) true t v d ps) : ∃ p c xs, v = .slice p xs.length c ∧ Sl w.heap en p c xs ∧ ∀ y ∈ xs, Good y := by
  obtain ⟨a, len, cap, rfl⟩ := okWide_slice ht hv
  obtain ⟨n, h⟩ := h
  obtain ⟨p, c, xs, hx, hs⟩ := read_slice en Good ht hc dec h
  simp [Value.cells] at hx
  obtain ⟨rfl, rfl, rfl⟩ := hx
  exact ⟨_, _, xs, rfl, hs⟩

theorem arg_struct {fs : Array Field} {t : TypeId} {v : Value} {d : DataW H} {ps : List MemPlace} {r : Reach} {base : Nat} (ht : P.underlying t = some (.struct fs)) (hv : Value.okWide P w r base t v) (h : DataW.Trod enc P w 0 (fun _ => true) true t v d ps) : ∃ cs n z, v = .agg cs.toArray ∧ DataW.trod enc P w 0 (fun _ => true) true n t cs = some z := by
  obtain ⟨cs, rfl, _⟩ := okWide_struct ht hv
  obtain ⟨n, h⟩ := h
  exact ⟨cs.toList, n, _, rfl, h⟩

/-- the fields of a struct -/
theorem read_field {t : TypeId} {fs : Array Field} (ht : P.underlying t = some (.struct fs)) {n : Nat} {cs : List Value} {z : DataW H × List MemPlace} (h : DataW.trod enc P w 0 (fun _ => true) true n t cs = some z) (i o sz : Nat) (u : TypeId)
    (hf : (fs[i]?.map fun f => (f.offset, f.type)) = some (o, u)) (hs : P.cellsOf u = sz) : ∃ m y, DataW.trod enc P w 0 (fun _ => true) true m u ((cs.drop o).take sz) = some y := by
  obtain ⟨xs, m, _, _, hl, hxl, hx⟩ := DataW.trod_struct ht h
  match hfi : fs[i]? with
  | none => rw [hfi] at hf; cases hf
  | some f =>
    rw [hfi] at hf
    simp only [Option.map_some, Option.some.injEq, Prod.mk.injEq] at hf
    have hi : i < fs.size := by
      rcases Nat.lt_or_ge i fs.size with hh | hh
      · exact hh
      · rw [Array.getElem?_eq_none hh] at hfi; cases hfi
    have h0 := hx i f hfi
    rw [hf.1, hf.2, hs] at h0
    have hi' : i < xs.length := by omega
    rw [List.getElem?_eq_getElem hi'] at h0
    exact ⟨m, xs[i], h0⟩

theorem read_len {t : TypeId} {fs : Array Field} (ht : P.underlying t = some (.struct fs)) {n : Nat} {cs : List Value} {z : DataW H × List MemPlace} (h : DataW.trod enc P w 0 (fun _ => true) true n t cs = some z) {sz : Nat} (hs : P.cellsOf t = sz) : cs.length = sz := by
  obtain ⟨xs, m, _, _, hl, hxl, hx⟩ := DataW.trod_struct ht h
  omega

theorem trodAll_below (hl : laidOutB P = true) {W W' : World} (hx : Ext W W') : ∀ {ts : List TypeId} {vs : List Value} {ds : List (DataW H)} {ps : List MemPlace}, (∀ t ∈ ts, P.readableRec t = true ∧ t < P.types.size) →
    DataW.TrodAll enc P W 0 (fun _ => true) true ts vs ds ps → DataW.TrodAll enc P W' 0 (fun b => decide (b < W.heap.size)) true ts vs ds ps
  | [], vs, ds, ps, _, h => by
    obtain ⟨rfl, rfl, rfl⟩ := trodAll_nil h
    exact trodAll_mk0
  | t :: ts, vs, ds, ps, hr, h => by
    obtain ⟨v, vs', d, ds', p, q, rfl, rfl, rfl, h1, h2⟩ := trodAll_cons h
    have hlt : ∀ x ∈ p, x.block < W.heap.size := by obtain ⟨m, hm⟩ := h1; exact DataW.trod_lt m _ _ _ hm
    obtain ⟨r1, r2⟩ := hr t (by simp)
    exact trodAll_cons_mk (Below.trod hl r1 r2 h1 hx hlt) (trodAll_below hl hx (fun t ht => hr t (by simp [ht])) h2)

/-- the frame of a law: it returns true and only adds memory -/
theorem law_post {f : Func} {s : ChangeSpec} {W W' : World} {args : Array Value} {ds gs : List (DataW H)} {before : List MemPlace} (hl : laidOutB P = true) (hr : (f.params.toList.all fun t => P.readableRec t && decide (t < P.types.size)) = true) {tb : TypeId} (hb : P.underlying tb = some .bool)
    (hres : f.resultTypes = #[tb]) (hvars : s.vars = []) (hW : DataW.Whole enc P f.params.toList s.vars false W args.toList ds gs before) (hs : s.fn H (ds ++ gs) = { results := [.lit (.bool true)], args := ds }) (hx : Ext W W') :
    s.post enc P f false true false false W args (.bool true) W' := by
  have hW' := hW
  obtain ⟨p, q, hA, hV, rfl, _, _⟩ := hW
  rw [hvars] at hV
  obtain ⟨rfl, rfl⟩ := trodVars_none hV
  have hr' : ∀ t ∈ f.params.toList, P.readableRec t = true ∧ t < P.types.size := fun t ht => by
    have := List.all_eq_true.1 hr t ht
    simpa using this
  refine ⟨ds, [], p ++ [], [], p, [], hW', ?_, ?_, ?_, hx.frame _, fun h => by cases h⟩
  · rw [hs, hres]
    exact trodAll_mk1 (shut_bool hb _)
  · rw [hs]
    exact trodAll_below hl hx hr' hA
  · rw [hs, hvars]; exact rfl

end
end Go.V

/- Replies: trees, and how they lie in memory; in plain Lean. -/
namespace Go.V
section
variable {P : Program} {n : Nat} {E E0 : Env} {w : World} {Q : Exit → Act → World → Prop}
/-- a region's many ways meet again behind it -/
theorem W_cutR {id : Nat} {l : Array Oper} {b : Bool} {y : Code} (E0 : Env) (J : World → Prop) (h1 : W P n (.region id l b) (fun e a w' => e = .normal ∧ Holds n E0 a ∧ J w') E w) (h2 : ∀ w', J w' → W P n y Q E0 w') : W P n (.seq (.region id l b) y) Q E w := by
  unfold W at *
  exact fun a ha => wp_seq (wp_mono (h1 a ha) (fun e a w' ⟨he, hh, hj⟩ => by subst he; exact h2 w' hj a hh))
theorem Post_cut {J : World → Prop} (hE : Env.sub E0 E) (hJ : J w) : Post n (fun e a w' => e = .normal ∧ Holds n E0 a ∧ J w') .normal E w := by
  unfold Post
  exact fun _ ha => ⟨rfl, ha.sub hE, hJ⟩
end
/-- a reply as it lies in a slice -/
structure RawR where
  kind : Int
  s : ByteArray
  n : Int
  p : Option Addr
  len : Nat
  cap : Nat
def eRep : Enc RawR := ⟨4, fun r => [.int .i64 r.kind, .string r.s, .int .i64 r.n, .slice r.p r.len r.cap], fun _ => rfl, fun _ v hv => by simp at hv; rcases hv with rfl | rfl | rfl | rfl <;> rfl, by decide⟩
inductive Rep where
  | mk (kind : Int) (s : ByteArray) (n : Int) (l : List Rep)
def Rep.kind : Rep → Int | .mk k _ _ _ => k
def Rep.s : Rep → ByteArray | .mk _ s _ _ => s
def Rep.n : Rep → Int | .mk _ _ n _ => n
def Rep.l : Rep → List Rep | .mk _ _ _ l => l
theorem Rep.ext' {a b : Rep} (h1 : a.kind = b.kind) (h2 : a.s = b.s) (h3 : a.n = b.n) (h4 : a.l = b.l) : a = b := by
  cases a; cases b
  simp only [Rep.kind, Rep.s, Rep.n, Rep.l] at *
  subst h1 h2 h3 h4
  rfl
/-- tree t lies at r, not deeper than d -/
def RepAt (H : Array Obj) : Nat → RawR → Rep → Prop
  | 0, _, _ => False
  | d + 1, r, t => r.kind = t.kind ∧ r.s = t.s ∧ r.n = t.n ∧ r.len = t.l.length ∧ t.s.size ≤ maxLen ∧ (-9223372036854775808 ≤ t.n ∧ t.n ≤ 9223372036854775807) ∧
    ∃ rs : List RawR, Sl H eRep r.p r.cap rs ∧ rs.length = t.l.length ∧ ∀ (i : Nat) r' t', rs[i]? = some r' → t.l[i]? = some t' → RepAt H d r' t'
/-- several -/
structure RepsAt (H : Array Obj) (d : Nat) (p : Option Addr) (c : Nat) (rs : List RawR) (ts : List Rep) : Prop where
  sl : Sl H eRep p c rs
  len : rs.length = ts.length
  get : ∀ (i : Nat) r t, rs[i]? = some r → ts[i]? = some t → RepAt H d r t
theorem RepAt.ext {w w' : World} (hx : Ext w w') : ∀ {d : Nat} {r : RawR} {t : Rep}, RepAt w.heap d r t → RepAt w'.heap d r t
  | 0, _, _, h => h
  | d + 1, r, t, ⟨h1, h2, h3, h4, h5, h6, rs, hs, hl, hg⟩ => ⟨h1, h2, h3, h4, h5, h6, rs, hs.ext hx, hl, fun i r' t' hr ht => RepAt.ext hx (hg i r' t' hr ht)⟩
theorem RepsAt.ext {w w' : World} {d : Nat} {p : Option Addr} {c : Nat} {rs : List RawR} {ts : List Rep} (h : RepsAt w.heap d p c rs ts) (hx : Ext w w') : RepsAt w'.heap d p c rs ts :=
  ⟨h.sl.ext hx, h.len, fun i r t hr ht => (h.get i r t hr ht).ext hx⟩
/-- a reply and its list -/
theorem RepAt.open {H : Array Obj} {d : Nat} {r : RawR} {t : Rep} (h : RepAt H d r t) : ∃ e rs, d = e + 1 ∧ r.kind = t.kind ∧ r.s = t.s ∧ r.n = t.n ∧ r.len = rs.length ∧ t.s.size ≤ maxLen ∧ (-9223372036854775808 ≤ t.n ∧ t.n ≤ 9223372036854775807) ∧ RepsAt H e r.p r.cap rs t.l := by
  cases d with
  | zero => exact h.elim
  | succ d =>
    obtain ⟨h1, h2, h3, h4, h5, h6, rs, hs, hl, hg⟩ := h
    exact ⟨d, rs, rfl, h1, h2, h3, by rw [h4, hl], h5, h6, hs, hl, hg⟩
theorem RepAt.mono {H : Array Obj} : ∀ {d e : Nat} {r : RawR} {t : Rep}, RepAt H d r t → d ≤ e → RepAt H e r t
  | 0, _, _, _, h, _ => h.elim
  | d + 1, 0, _, _, _, hl => by omega
  | d + 1, e + 1, r, t, ⟨h1, h2, h3, h4, h5, h6, rs, hs, hl, hg⟩, hle => ⟨h1, h2, h3, h4, h5, h6, rs, hs, hl, fun i r' t' hr ht => RepAt.mono (hg i r' t' hr ht) (by omega)⟩
/-- no end of a line in s -/
def nobr (s : ByteArray) : Bool := s.data.toList.all (fun b => decide (b ≠ 13) && decide (b ≠ 10))
theorem nobr_iff (s : ByteArray) : nobr s = true ↔ ∀ k, k < s.size → bget s k ≠ 13 ∧ bget s k ≠ 10 := by
  unfold nobr
  rw [List.all_eq_true]
  constructor
  · intro h k hk
    have := h (bget s k) (by
      rw [bget_list]
      rw [List.getD_eq_getElem?_getD, List.getElem?_eq_getElem (by rw [← size_list]; exact hk)]
      exact List.getElem_mem _)
    simpa using this
  · intro h b hb
    obtain ⟨k, hk⟩ := List.getElem?_of_mem hb
    have hlt : k < s.size := by rw [size_list]; exact get_lt hk
    have := h k hlt
    rw [bget_list, List.getD_eq_getElem?_getD, hk] at this
    simpa using this
def leafOk (t : Rep) : Bool :=
  decide (0 ≤ t.kind) && decide (t.kind ≤ 5) && (decide (t.kind = 5) || t.l.isEmpty) && (decide (t.kind = 2) || decide (t.n = 0)) && (decide (t.kind = 0) || decide (t.kind = 1) || decide (t.kind = 3) || decide (t.s = ⟨#[]⟩)) && (decide (2 ≤ t.kind) || nobr t.s)
/-- Right, with so many arrays within one another -/
def rightT : Nat → Rep → Bool
  | 0, t => leafOk t && decide (t.kind ≠ 5)
  | d + 1, t => leafOk t && t.l.all (rightT d)
def sizeL (f : Rep → Int) : List Rep → Int → Int
  | [], n => n
  | x :: l, n => if n < 100000 then sizeL f l (n + f x) else n
/-- Size, so deep -/
def sizeT : Nat → Rep → Int
  | 0, _ => 100000
  | d + 1, t => if 2000 < t.s.size then 100000 else sizeL (sizeT d) t.l 1
end Go.V

/- Rules for pieces of strings, bits. -/
namespace Go.V
open Go.RowKit
section
variable {P : Program} {n : Nat} {ops : Array Oper} {dr : Nat × List Nat} {dq : Nat} {l : List Oper} {E : Env} {w : World} {K : Env → World → Prop}
variable {d : Option Nat} {ty : TypeId} {pos : String} {af : Array Edge} {g : Option (Nat × Bool)} {x y z : Operand} {k k' : IntKind} {i j : Int} {t : Nat} {s : ByteArray}
theorem G1_ssliceHi (hu : StrT P t) (hx : E.look x = some (.string s)) (hy : E.look y = some (.int k i)) (h0 : 0 ≤ i) (h1 : i ≤ s.size) (hd : dstOk n d = true)
    (h : G P n ops dr l (E.put d (.string (s.extract 0 i.toNat))) w K) : G1 P n ops dr ⟨d, .slice t x none (some y) none, ty, pos, af, g⟩ l E w K :=
  G1_quiet _ hd (fun a ha w' _ => by
    simp [execOp, Instr.sliceAt, Instr.slice, Instr.sliceBounds, Instr.sliceBound, asIntOf, ha.eval hx, ha.eval hy, run_underlying (P := P) hu, h0, h1]) h
theorem G1_ssliceLo (hu : StrT P t) (hx : E.look x = some (.string s)) (hy : E.look y = some (.int k i)) (h0 : 0 ≤ i) (h1 : i ≤ s.size) (hd : dstOk n d = true)
    (h : G P n ops dr l (E.put d (.string (s.extract i.toNat s.size))) w K) : G1 P n ops dr ⟨d, .slice t x (some y) none none, ty, pos, af, g⟩ l E w K :=
  G1_quiet _ hd (fun a ha w' _ => by
    simp [execOp, Instr.sliceAt, Instr.slice, Instr.sliceBounds, Instr.sliceBound, asIntOf, ha.eval hx, ha.eval hy, run_underlying (P := P) hu, h0, h1]) h
theorem G1_ssliceBoth (hu : StrT P t) (hx : E.look x = some (.string s)) (hy : E.look y = some (.int k i)) (hz : E.look z = some (.int k' j)) (h0 : 0 ≤ i) (h1 : i ≤ j) (h2 : j ≤ s.size) (hd : dstOk n d = true)
    (h : G P n ops dr l (E.put d (.string (s.extract i.toNat j.toNat))) w K) : G1 P n ops dr ⟨d, .slice t x (some y) (some z) none, ty, pos, af, g⟩ l E w K :=
  G1_quiet _ hd (fun a ha w' _ => by
    have hj : 0 ≤ j := by omega
    simp [execOp, Instr.sliceAt, Instr.slice, Instr.sliceBounds, Instr.sliceBound, asIntOf, ha.eval hx, ha.eval hy, ha.eval hz, run_underlying (P := P) hu, h0, hj, h2]
    intro hh; omega) h
end
theorem mkStr_size (l : List UInt8) : (mkStr l).size = l.length := by simp [mkStr, ByteArray.size]
theorem mkStr_take (l : List UInt8) (k : Nat) : (mkStr l).extract 0 k = mkStr (l.take k) := by
  unfold mkStr; rw [ByteArray.extract_mk]; simp
theorem mkStr_inj {a b : List UInt8} : mkStr a = mkStr b ↔ a = b := by
  constructor
  · intro h
    have : (mkStr a).data.toList = (mkStr b).data.toList := by rw [h]
    simpa [mkStr] using this
  · rintro rfl; rfl
end Go.V

/- Rows as raw cells: copy, the append of zeros, overlaps, room behind the length. -/
namespace Go.V
open Go.RowKit

theorem Own.toBlk {α : Type} {e : Enc α} {w : World} {B T : Nat} {p : Option Addr} {c : Nat} {xs : List α} (h : Own w B T e p c xs) (hne : p ≠ none) :
    ∃ gb cur, p = bx gb ∧ B ≤ gb ∧ Blk w.heap gb T cur ∧ cur.length = c * e.sz ∧ c ≤ maxLen ∧ xs.length ≤ c ∧ cur.take (xs.length * e.sz) = xs.flatMap e.enc := by
  rcases h.2 with ⟨hv, _⟩ | ⟨g, cap, cur, hv, hb, hg, hnc, hcm, hcs, ht⟩
  · injection hv with e1 _ _; exact absurd e1 hne
  · injection hv with e1 _ e3; subst e1 e3
    exact ⟨g, cur.toList, rfl, hb, by unfold Blk; rw [Array.toArray_toList]; exact hg, by simpa using hcs, hcm, hnc, ht⟩
theorem Own.ofBlk {α : Type} {e : Enc α} {w : World} {B T gb : Nat} {c : Nat} {xs : List α} {cur : List Value} (hb : B ≤ gb) (hB : Blk w.heap gb T cur) (hl : cur.length = c * e.sz) (hc : c ≤ maxLen) (hx : xs.length ≤ c) (ht : cur.take (xs.length * e.sz) = xs.flatMap e.enc) :
    Own w B T e (bx gb) c xs := by
  unfold Own
  refine ⟨by rw [flat_len], .inr ⟨gb, c, cur.toArray, rfl, hb, hB, hx, hc, by simpa using hl, by simpa using ht⟩⟩
theorem Own.some_of_pos {α : Type} {e : Enc α} {w : World} {B T : Nat} {p : Option Addr} {c : Nat} {xs : List α} (h : Own w B T e p c xs) (hn : 0 < xs.length) : p ≠ none := by
  rintro rfl
  have h1 := h.sl.ok.nul rfl
  have h2 := h.sl.ok.le
  omega
theorem subp_bx {gb c l sz : Nat} (h : l < c) : subp (bx gb) c l sz = some ⟨gb, l * sz, none⟩ := by
  unfold subp
  rw [if_neg (by omega)]
  simp [addr_add]

section
variable {P : Program} {n : Nat} {ops : Array Oper} {dr : Nat × List Nat} {dq : Nat} {l : List Oper} {E : Env} {w : World} {K : Env → World → Prop}
variable {d : Option Nat} {ty : TypeId} {pos : String} {af : Array Edge} {g : Option (Nat × Bool)} {x y z : Operand} {k k' : IntKind} {i j : Int} {t t' u sz by_ : Nat} {v v' : Value} {p q : Option Addr} {c len m : Nat} {b : Bool}

theorem G1_cap (hu : SliceT P t u sz by_) (hx : E.look x = some (.slice p len c)) (hd : dstOk n d = true) (h : G P n ops dr l (E.put d (.int .i64 c)) w K) : G1 P n ops dr ⟨d, .call ⟨.builtin .cap, #[x], #[t]⟩, ty, pos, af, g⟩ l E w K :=
  G1_quiet _ hd (fun a ha w' _ => by simp [execOp, resolve, invoke, builtin, Builtin.cap_, ha.eval hx, run_underlying (P := P) hu.1, goInt]) h

theorem G1_sliceLoJ {q : Nat} (hu : SliceT P t u sz by_) (hx : E.look x = some (.slice p len c)) (hy : E.look y = some (.int k j)) (hj : j = (q : Int)) (ho : Okp p len c) (hq : q ≤ len) (hd : dstOk n d = true)
    (h : G P n ops dr l (E.put d (.slice (subp p c q sz) (len - q) (c - q))) w K) : G1 P n ops dr ⟨d, .slice t x (some y) none none, ty, pos, af, g⟩ l E w K := by
  subst hj; exact G1_sliceLo hu hx hy ho hq hd h
theorem G1_sliceHiJ {q : Nat} (hu : SliceT P t u sz by_) (hx : E.look x = some (.slice p len c)) (hy : E.look y = some (.int k j)) (hj : j = (q : Int)) (hq : q ≤ c) (hd : dstOk n d = true)
    (h : G P n ops dr l (E.put d (.slice p q c)) w K) : G1 P n ops dr ⟨d, .slice t x none (some y) none, ty, pos, af, g⟩ l E w K := by
  subst hj; exact G1_sliceHi hu hx hy hq hd (by rw [subp_zero]; exact h)

theorem run_copyB {gb o dl dc sl sc T : Nat} {cur vs : List Value} (hu : SliceT P t u sz by_) (hb : Blk w.heap gb T cur) (hq : vs ≠ [] → ∃ b' o', q = some ⟨b', o', none⟩) (hn : vs.length = min sl dl * sz)
    (hsrc : ∀ j v, vs[j]? = some v → hcell w.heap (adr q j) = some v) (hfit : o + vs.length ≤ cur.length) (h1 : ∀ v ∈ vs, v.oneCell' = true) (hsz : 0 < sz) (ty : TypeId) :
    (Builtin.copy_ #[t, t'] ty #[.slice (some ⟨gb, o, none⟩) dl dc, .slice q sl sc]).run P w = .ok (goInt (min sl dl)) (w.setRow gb (cur.take o ++ vs ++ cur.drop (o + vs.length)).toArray) := by
  obtain ⟨hu1, inf, z, hi, rfl, rfl, hz, hz2⟩ := hu
  have hst := run_storeCells_at P gb o T vs 0 cur.toArray w hb (by simpa using hfit) h1
  simp only [Nat.add_zero] at hst
  have hmin : Nat.min sl dl = min sl dl := rfl
  by_cases hv : vs = []
  · subst hv
    have h0 : min sl dl = 0 := by
      have : min sl dl * inf.size = 0 := by simpa using hn.symm
      rcases Nat.mul_eq_zero.1 this with h | h
      · exact h
      · omega
    have hl : ∀ (x : Addr), (loadCells x 0).run P w = .ok #[] w := fun x => by simpa using run_loadCells_list (P := P) w x [] (by simp)
    cases q <;> (simp [Builtin.copy_, run_underlying hu1, Builtin.lenOf, Builtin.firstCells, sizeOf, typeInfo, hi, hmin, h0, hl, hst, goInt]; try omega)
  · obtain ⟨b', o', rfl⟩ := hq hv
    have hl := run_loadCells_list (P := P) w ⟨b', o', none⟩ vs (fun j v hj => by rw [addr_add]; exact hsrc j v hj)
    rw [hn] at hl
    simp [Builtin.copy_, run_underlying hu1, Builtin.lenOf, Builtin.firstCells, sizeOf, typeInfo, hi, hmin, hl, hst, goInt]
    try omega

/-- copy into a row of one's own -/
theorem G1_copyB {gb o dl dc sl sc T : Nat} {cur : List Value} {dp : Option Addr} (vs : List Value) (hu : SliceT P t u sz by_) (hx : E.look x = some (.slice dp dl dc)) (hy : E.look y = some (.slice q sl sc)) (hdp : dp = some ⟨gb, o, none⟩) (hb : Blk w.heap gb T cur) (hq : vs ≠ [] → ∃ b' o', q = some ⟨b', o', none⟩) (hn : vs.length = min sl dl * sz)
    (hsrc : ∀ j v, vs[j]? = some v → hcell w.heap (adr q j) = some v) (hfit : o + vs.length ≤ cur.length) (h1 : ∀ v ∈ vs, v.oneCell' = true) (hsz : 0 < sz)
    (he : effects P dr.1 ⟨d, .call ⟨.builtin .copy, #[x, y], #[t, t']⟩, ty, pos, af, g⟩ = true) (hw : writes dr.1 ⟨d, .call ⟨.builtin .copy, #[x, y], #[t, t']⟩, ty, pos, af, g⟩ = true) (hd : dstOk n d = true)
    (h : ∀ w', Blk w'.heap gb T (cur.take o ++ vs ++ cur.drop (o + vs.length)) → w.grownBy w' (some gb) → w'.heap.size = w.heap.size → G P n ops dr l (E.put d (.int .i64 (min sl dl : Nat))) w' K) : G1 P n ops dr ⟨d, .call ⟨.builtin .copy, #[x, y], #[t, t']⟩, ty, pos, af, g⟩ l E w K := by
  subst hdp
  exact G1_eff _ (w.setRow gb (cur.take o ++ vs ++ cur.drop (o + vs.length)).toArray) he hd (fun a ha => by simp [execOp, resolve, invoke, builtin, ha.eval hx, ha.eval hy, run_copyB (t' := t') hu hb hq hn hsrc hfit h1 hsz ty, goInt]; try omega) (.inl hw)
    (h _ (by unfold Blk; exact setRow_heap w gb _ _ T (0, 0) hb) (setRow_grown w gb _) (by simp))

/-- append(s[:i], make(S, k)...) that grows: a new row -/
theorem G1_appendZ {α : Type} {e : Enc α} {xs : List α} {kq kn : IntKind} {kk : Nat} (hu : SliceT P t u sz by_) (hi : P.underlying t' = some (.int kn)) (hx : E.look x = some (.slice p len c)) (hy : E.look y = some (.int kq j)) (hj : j = (kk : Int)) (hs : Sl w.heap e p c xs) (hlen : len = xs.length) (hm : m = xs.length + kk) (hsz : e.sz = sz) (hk : 0 < kk) (hg : c < xs.length + kk)
    (hb : (xs.length + kk) * by_ ≤ 140737488355328) (hmax : xs.length + kk ≤ 9223372036854775807)
    (he : effects P dr.1 ⟨d, .call ⟨.builtin .append, #[x, y], #[t, t']⟩, ty, pos, af, g⟩ = true) (hd : dstOk n d = true)
    (h : ∀ c' w' cur, Blk w'.heap w.heap.size u cur → cur.length = c' * sz → cur.take (xs.length * sz) = xs.flatMap e.enc → xs.length + kk ≤ c' → c' ≤ maxLen → Ext w w' → w'.heap.size = w.heap.size + 1 → G P n ops dr l (E.put d (.slice (bx w.heap.size) m c')) w' K) :
    G1 P n ops dr ⟨d, .call ⟨.builtin .append, #[x, y], #[t, t']⟩, ty, pos, af, g⟩ l E w K := by
  subst hsz hlen hm hj
  have hpos := e.pos
  obtain ⟨hu1, inf, z, hinf, hs1, hb1, hz, hz2⟩ := hu
  have hold : (Builtin.firstCells inf.size xs.length (.slice p xs.length c)).run P w.drew = .ok (xs.flatMap e.enc).toArray w.drew := by
    cases p with
    | none =>
      have h1 := hs.ok.nul rfl
      have h2 := hs.ok.le
      obtain rfl : xs = [] := List.eq_nil_of_length_eq_zero (by omega)
      simp [Builtin.firstCells]
    | some a =>
      by_cases hne : xs = []
      · subst hne
        have := run_firstCells_some (P := P) w.drew inf.size 0 a 0 c [] (by simp) (by simp)
        simpa using this
      · have hl0 : 0 < xs.length := List.length_pos_iff.2 hne
        have hspot := hs.ok.spot a rfl (by have := hs.ok.le; omega)
        exact run_firstCells_some (P := P) w.drew inf.size xs.length a xs.length c (xs.flatMap e.enc) (by rw [hs1, flat_len]) (fun j v hv => by
          have hc := hs.flat j v hv
          obtain ⟨bb, oo, ss⟩ := a
          simp only at hspot
          subst hspot
          rw [addr_add]; exact hc)
  have hbk : kk * by_ ≤ (xs.length + kk) * by_ := Nat.mul_le_mul_right _ (by omega)
  have hr := Go.Lib.run_append_grow_zeros (P := P) w t t' ty u inf z kq kn hu1 hi hinf hz p xs.length c (xs.flatMap e.enc) hold kk hk (by omega) hg (by omega) (by rw [hb1]; omega) (by rw [hb1]; exact growslice_fits hg hb)
  have hge := grownCap_ge w (xs.length + kk) c u
  have hcm : grownCap w (xs.length + kk) c u ≤ maxLen := grownCap_le_maxLen w _ c u (by simp only [maxLen]; omega)
  generalize hcur : (xs.flatMap e.enc).toArray ++ Builtin.zeroCells z.cells kk ++ Builtin.zeroCells z.cells (grownCap w (xs.length + kk) c u - (xs.length + kk)) = cur at hr
  refine G1_eff (.slice (some ⟨w.heap.size, 0, none⟩) (xs.length + kk) (grownCap w (xs.length + kk) c u)) (w.drew.alloc (.cells cur u)) he hd (fun a ha => by simp [execOp, resolve, invoke, builtin, ha.eval hx, ha.eval hy, hr]) (.inr ?_) (h _ _ cur.toList ?_ ?_ ?_ hge hcm ?_ (by simp))
  · exact (Ext.alloc (Ext.drew Ext.rfl') _).toS
  · unfold Blk; rw [Array.toArray_toList]; exact heap_alloc_new w.drew _
  · rw [← hcur]
    simp only [Array.length_toList, Array.size_append, List.size_toArray, size_zeroCells, hz2, flat_len]
    rw [← Nat.add_mul, ← Nat.add_mul]
    congr 1
    omega
  · rw [← hcur]
    simp only [Array.toList_append]
    rw [List.append_assoc, List.take_left' (by rw [flat_len])]
  · exact Ext.alloc (Ext.drew Ext.rfl') _

/-- slices.overlaps at two rows in two blocks -/
theorem G1_overlaps {f : FuncId} {fn : Func} {tS tR T T' ab bb : Nat} {ca cb : List Value} {ao bo la lb cpa cpb : Nat} {tys : Array TypeId} (hf : P.funcs[f]? = some fn) (hname : (fn.name == "runtime.NumGoroutine") = false) (hb : fn.body.isNone = true) (hn : Extern.findNext fn = none) (hfi : Extern.find fn = some (Extern.SlicesOverlaps.overlaps #[tS, tS] #[tR]))
    (hu : SliceT P tS u sz by_) (hx : E.look x = some (.slice p la cpa)) (hy : E.look y = some (.slice q lb cpb)) (hp : p = some ⟨ab, ao, none⟩) (hq : q = some ⟨bb, bo, none⟩) (hA : Blk w.heap ab T ca) (hB : Blk w.heap bb T' cb) (hne : ab ≠ bb) (hcb : cb ≠ [])
    (he : effects P dr.1 ⟨d, .call ⟨.value (.func f), #[x, y], tys⟩, ty, pos, af, g⟩ = true) (hd : dstOk n d = true)
    (h : G P n ops dr l (E.put d (.bool false)) w K) : G1 P n ops dr ⟨d, .call ⟨.value (.func f), #[x, y], tys⟩, ty, pos, af, g⟩ l E w K := by
  subst hp hq
  have hr : (callFunc f #[.slice (some ⟨ab, ao, none⟩) la cpa, .slice (some ⟨bb, bo, none⟩) lb cpb]).run P w = .ok (.value (.bool false)) w := by
    unfold Blk at hA hB
    rw [run_callFunc_extern hf hname hb hn hfi, Go.Lib.run_overlaps_apart w tS tR u hu.1 sz (run_sizeOf_T hu) ⟨ab, ao, none⟩ ⟨bb, bo, none⟩ la cpa lb cpb hne T T' ca.length cb.length (by simp [World.shape?, hA]) (by simp [World.shape?, hB]) (by simp [hcb]) (by simp [World.frozen?, hA]) (by simp [World.frozen?, hA])]
    rfl
  exact G1_eff _ w he hd (fun a ha => by
    have e0 : a.eval (.func f) = .func (.func f) #[] #[] := rfl
    simp [execOp, resolve, Deferred.ofValue, e0, invoke, ha.eval hx, ha.eval hy, hr]) (.inr ExtS.rfl') h

end
end Go.V

/- append within the room, clear, rows that are shortened. -/
namespace Go.V
open Go.RowKit
section
variable {P : Program} {n : Nat} {ops : Array Oper} {dr : Nat × List Nat} {dq : Nat} {l : List Oper} {E : Env} {w : World} {K : Env → World → Prop}
variable {d : Option Nat} {ty : TypeId} {pos : String} {af : Array Edge} {g : Option (Nat × Bool)} {x y z : Operand} {k k' : IntKind} {i j : Int} {t t' u sz by_ : Nat} {v v' : Value} {p q : Option Addr} {c len m : Nat} {b : Bool}

theorem G1_quoJ {r : Int} (hx : E.look x = some (.int k i)) (hy : E.look y = some (.int k j)) (h0 : j ≠ 0) (hr : k.wrap (i.tdiv j) = r) (hd : dstOk n d = true)
    (h : G P n ops dr l (E.put d (.int k r)) w K) : G1 P n ops dr ⟨d, .binOp .quo t x y t', ty, pos, af, g⟩ l E w K := by
  subst hr; exact G1_quo hx hy h0 hd h
theorem G1_indexAddrJ {q : Nat} (hu : SliceT P t u sz by_) (hx : E.look x = some (.slice p len c)) (hy : E.look y = some (.int k j)) (hj : j = (q : Int)) (ho : Okp p len c) (h1 : q < len) (hd : dstOk n d = true)
    (h : G P n ops dr l (E.put d (.pointer (some (adr p (q * sz))))) w K) : G1 P n ops dr ⟨d, .indexAddr t x y, ty, pos, af, g⟩ l E w K := by
  subst hj; exact G1_indexAddrN hu hx hy ho h1 hd h
theorem G1_sliceBothJ {q r : Nat} (hu : SliceT P t u sz by_) (hx : E.look x = some (.slice p len c)) (hy : E.look y = some (.int k i)) (hz : E.look z = some (.int k' j)) (hi : i = (q : Int)) (hj : j = (r : Int)) (hq : q ≤ r) (hr : r ≤ c) (hd : dstOk n d = true)
    (h : G P n ops dr l (E.put d (.slice (subp p c q sz) (r - q) (c - q))) w K) : G1 P n ops dr ⟨d, .slice t x (some y) (some z) none, ty, pos, af, g⟩ l E w K := by
  subst hi hj; exact G1_sliceBoth hu hx hy hz hq hr hd h
theorem G1_slice3M {q r mm : Nat} {zz : Operand} {k2 : IntKind} {i2 : Int} (hu : SliceT P t u sz by_) (hx : E.look x = some (.slice p len c)) (hy : E.look y = some (.int k i)) (hz : E.look z = some (.int k' j)) (hm : E.look zz = some (.int k2 i2)) (e1 : i = q) (e2 : j = r) (e3 : i2 = mm) (h1 : q ≤ r) (h2 : r ≤ mm) (h3 : mm ≤ c) (hd : dstOk n d = true)
    (h : G P n ops dr l (E.put d (.slice (subp p mm q sz) (r - q) (mm - q))) w K) : G1 P n ops dr ⟨d, .slice t x (some y) (some z) (some zz), ty, pos, af, g⟩ l E w K :=
  G1_quiet _ hd (fun a ha w' _ => by
    subst e1 e2 e3
    have a1 : (0 : Int) ≤ mm ∧ (mm : Int) ≤ c := by omega
    have a2 : (0 : Int) ≤ q ∧ (q : Int) ≤ r := by omega
    have a3 : (0 : Int) ≤ r ∧ (r : Int) ≤ mm := by omega
    have hsz := run_sizeOf_T hu w'
    simp only [execOp, Sem.run_bind, Instr.sliceAt, run_underlying hu.1, Result.andThen_ok, Instr.slice, Instr.sliceBounds, Sem.run_pure]
    simp [ha.eval hx, ha.eval hy, ha.eval hz, ha.eval hm, Instr.sliceBound, asIntOf, a1, a2, a3, hsz, subp, h1, Instr.sliceAt, run_underlying hu.1, Instr.slice, Instr.sliceBounds]
    intro hh; omega) h
/-- append to a row that has the room: in place -/
theorem G1_appendRoom {gb xl yl c2 : Nat} {cur vs : List Value} {b' o' : Nat} (hu : SliceT P t u sz by_) (hx : E.look x = some (.slice p xl c)) (hy : E.look y = some (.slice q yl c2)) (hp : p = bx gb) (hq : q = some ⟨b', o', none⟩) (hb : Blk w.heap gb u cur) (hcl : cur.length = c * sz) (hn : vs.length = yl * sz)
    (hsrc : ∀ j v, vs[j]? = some v → hcell w.heap (adr q j) = some v) (h1 : ∀ v ∈ vs, v.oneCell' = true) (hroom : xl + yl ≤ c)
    (he : effects P dr.1 ⟨d, .call ⟨.builtin .append, #[x, y], #[t, t]⟩, ty, pos, af, g⟩ = true) (hw : writes dr.1 ⟨d, .call ⟨.builtin .append, #[x, y], #[t, t]⟩, ty, pos, af, g⟩ = true) (hd : dstOk n d = true)
    (h : ∀ w', Blk w'.heap gb u (cur.take (xl * sz) ++ vs ++ cur.drop (xl * sz + vs.length)) → w.grownBy w' (some gb) → w'.heap.size = w.heap.size → G P n ops dr l (E.put d (.slice (bx gb) (xl + yl) c)) w' K) : G1 P n ops dr ⟨d, .call ⟨.builtin .append, #[x, y], #[t, t]⟩, ty, pos, af, g⟩ l E w K := by
  subst hp hq
  obtain ⟨hu1, inf, zz, hi, hs1, hb1, hz, hz2⟩ := hu
  have hr := run_append_room (P := P) w t ty u inf hu1 hi gb xl c cur.toArray hb ⟨b', o', none⟩ yl c2 vs (by rw [hs1]; exact hn) (fun j v hv => by rw [addr_add]; exact hsrc j v hv) h1 hroom
    (by rw [hs1, hn, ← Nat.add_mul, List.size_toArray, hcl]; exact Nat.mul_le_mul_right _ hroom)
  rw [hs1] at hr
  exact G1_eff _ (w.setRow gb (cur.take (xl * sz) ++ vs ++ cur.drop (xl * sz + vs.length)).toArray) he hd (fun a ha => by simp [execOp, resolve, invoke, builtin, ha.eval hx, ha.eval hy, hr]) (.inl hw)
    (h _ (by unfold Blk; exact setRow_heap w gb _ _ u (0, 0) hb) (setRow_grown w gb _) (by simp))

theorem zeroCells_one {zv : Value} (h : ∀ v ∈ zv.cells.toList, v.oneCell' = true) (h0 : 0 < zv.cells.size) (m : Nat) : ∀ v ∈ (Builtin.zeroCells zv.cells m).toList, v.oneCell' = true := by
  intro v hv
  simp only [Builtin.zeroCells, Array.toList_map, List.mem_map] at hv
  obtain ⟨i, _, rfl⟩ := hv
  have hlt : i % zv.cells.size < zv.cells.size := Nat.mod_lt _ h0
  apply h
  rw [getElem!_pos zv.cells (i % zv.cells.size) hlt]
  exact Array.getElem_mem_toList _

/-- clear of a part of a row of one's own -/
theorem G1_clearB {gb o T m : Nat} {cur : List Value} {zv : Value} (hu : SliceT P t u sz by_) (hx : E.look x = some (.slice p m c)) (hp : 0 < m → p = some ⟨gb, o, none⟩) (hb : Blk w.heap gb T cur) (hfit : o + m * sz ≤ cur.length) (hzv : ZeroT P u zv) (hone : ∀ v ∈ zv.cells.toList, v.oneCell' = true) (hzs : zv.cells.size = sz) (hsz : 0 < sz)
    (he : effects P dr.1 ⟨d, .call ⟨.builtin .clear, #[x], #[t]⟩, ty, pos, af, g⟩ = true) (hw : writes dr.1 ⟨d, .call ⟨.builtin .clear, #[x], #[t]⟩, ty, pos, af, g⟩ = true) (hd : dstOk n d = true)
    (h : ∀ w' vs, vs.length = m * sz → Blk w'.heap gb T (cur.take o ++ vs ++ cur.drop (o + m * sz)) → w.grownBy w' (some gb) → w'.heap.size = w.heap.size → G P n ops dr l (E.put d (.tuple #[])) w' K) : G1 P n ops dr ⟨d, .call ⟨.builtin .clear, #[x], #[t]⟩, ty, pos, af, g⟩ l E w K := by
  obtain ⟨hu1, inf, zz, hi, hs1, hb1, hz, hz2⟩ := hu
  by_cases hm : m = 0
  · subst hm
    refine G1_eff (.tuple #[]) w he hd (fun a ha => ?_) (.inl hw) (h w [] (by simp) (by simpa using hb) ⟨rfl, rfl, rfl, Nat.le_refl _, fun _ _ _ => rfl⟩ rfl)
    cases p <;> simp [execOp, resolve, invoke, builtin, ha.eval hx, Builtin.clear_, run_underlying hu1]
  · obtain rfl := hp (by omega)
    have hvl : (Builtin.zeroCells zv.cells m).toList.length = m * sz := by rw [Array.length_toList, size_zeroCells, hzs]
    have hst := run_storeCells_at P gb o T (Builtin.zeroCells zv.cells m).toList 0 cur.toArray w hb (by rw [Nat.add_zero, hvl, List.size_toArray]; exact hfit) (zeroCells_one hone (by omega) m)
    simp only [Nat.add_zero] at hst
    obtain ⟨m', rfl⟩ : ∃ m', m = m' + 1 := ⟨m - 1, by omega⟩
    refine G1_eff (.tuple #[]) (w.setRow gb (cur.take o ++ (Builtin.zeroCells zv.cells (m' + 1)).toList ++ cur.drop (o + (m' + 1) * sz)).toArray) he hd (fun a ha => ?_) (.inl hw)
      (h _ _ hvl (by unfold Blk; exact setRow_heap w gb _ _ T (0, 0) hb) (setRow_grown w gb _) (by simp))
    rw [hvl] at hst
    simp [execOp, resolve, invoke, builtin, ha.eval hx, Builtin.clear_, run_underlying hu1, run_zero hzv, hst]
end
end Go.V

/- bytes.Equal, bytes.HasPrefix, resp.cut: the walks. -/
namespace Go.V
section
variable {P : Program} {n : Nat} {ops : Array Oper} {dr : Nat × List Nat} {l : List Oper} {E : Env} {w : World} {K : Env → World → Prop}
variable {d : Option Nat} {ty : TypeId} {pos : String} {af : Array Edge} {g : Option (Nat × Bool)} {x : Operand} {t e : Nat}
/-- a literal's row of bytes, marked as a string's -/
theorem G1_convMark {gb N c : Nat} {cs : List Value} {bs : List UInt8} (ht : P.underlying t = some (.slice e)) (hk : P.underlying e = some (.int .u8)) (hx : E.look x = some (.slice (bx gb) N c)) (hb : Blk w.heap gb e cs) (hs : Sl w.heap eByte (bx gb) c bs)
    (he : effects P dr.1 ⟨d, .convert t t x, ty, pos, af, g⟩ = true) (hw : writes dr.1 ⟨d, .convert t t x, ty, pos, af, g⟩ = true) (hd : dstOk n d = true)
    (h : ∀ w', Sl w'.heap eByte (bx gb) c bs → w.grownBy w' (some gb) → w'.heap.size = w.heap.size → G P n ops dr l (E.put d (.slice (bx gb) N c)) w' K) : G1 P n ops dr ⟨d, .convert t t x, ty, pos, af, g⟩ l E w K := by
  have hb' := hb
  unfold Blk at hb'
  have hsh : w.shape? gb = some (e, cs.length) := by
    unfold World.shape?
    rw [hb']
    simp
  have hrun : (convert t t (.slice (bx gb) N c)).run P w = .ok (.slice (bx gb) N c) (w.freeze ⟨gb, cs.length, none⟩ 1) := by
    simp [convert, run_underlying ht, run_underlying hk, markStringish, hsh]
  have hfz : (w.freeze ⟨gb, cs.length, none⟩ 1).heap = w.heap.modify gb (fun
      | .cells c elem (lo, hi) => .cells c elem (if lo == hi then (cs.length, cs.length + 1) else (min lo cs.length, max hi (cs.length + 1)))
      | o => o) := by
    unfold World.freeze
    rw [if_neg (by decide)]
    rfl
  have hcell : ∀ a, hcell (w.freeze ⟨gb, cs.length, none⟩ 1).heap a = hcell w.heap a := by
    intro a
    unfold Go.V.hcell
    rw [hfz, Array.getElem?_modify]
    by_cases hg : gb = a.block
    · subst hg
      rw [if_pos rfl, hb']
      rfl
    · rw [if_neg hg]
  refine G1_eff _ _ he hd (fun a ha => by simp only [execOp, ha.eval hx, Sem.run_bind, hrun]; rfl) (.inl hw) (h _ ?_ ?_ ?_)
  · exact ⟨hs.ok, fun i y hi k v hv => by rw [hcell]; exact hs.cell i y hi k v hv⟩
  · refine ⟨?_, ?_, ?_, ?_, fun k hk hne => ?_⟩
    · unfold World.freeze; rw [if_neg (by decide)]
    · unfold World.freeze; rw [if_neg (by decide)]
    · unfold World.freeze; rw [if_neg (by decide)]
    · rw [hfz]; simp
    · rw [hfz, Array.getElem?_modify, if_neg (fun e => hne (by rw [e]))]
  · rw [hfz]; simp
end
end Go.V
namespace Go.Proofs.YtipbakiecocioaaGreatDoor
open Go.V
attribute [local irreducible] Blk Own hcell IntT SliceT PlainT AggT SizeT StrT FieldT ZeroT EqT ArrT
theorem bytes_equal {p q : Option Addr} {c d : Nat} {xs ys : List UInt8} {w : World} (hx : Sl w.heap eByte p c xs) (hy : Sl w.heap eByte q d ys) :
    Ctr Tryz.prog 105 [.slice p xs.length c, .slice q ys.length d] w (fun v w' => v = .bool (decide (xs = ys)) ∧ Ext w w') := by
  refine Ctr_of Tryz.func105 Tryz.ntmps105 rfl rfl rfl ?_
  repeat' (first | (apply G_on; exact rfl; first | ((first | apply G1_assign | apply G1_move); exact rfl; exact rfl) | (apply G1_toString; exact T.s22; exact T.i5; exact T.str9; exact rfl; (first | exact hx | exact hy); exact rfl) | (apply G1_seql; exact rfl; exact rfl; exact rfl)) | apply G_nil | apply Post_next | apply W_seq | apply W_region | apply W_ret)
  refine Post_ret Tryz.results105 ⟨_, _, rfl, rfl, rfl⟩ ?_
  refine ⟨?_, (by repeat first | assumption | exact Ext.rfl' | apply Ext.drew | apply Ext.alloc | refine Ext.trans ?_ (by assumption))⟩
  show Value.bool (decide _) = _
  congr 1
  rw [decide_eq_decide]
  exact mkStr_inj
theorem bytes_prefix {p q : Option Addr} {c d : Nat} {xs ys : List UInt8} {w : World} (hx : Sl w.heap eByte p c xs) (hy : Sl w.heap eByte q d ys) :
    Ctr Tryz.prog 73 [.slice p xs.length c, .slice q ys.length d] w (fun v w' => v = .bool (decide (ys.length ≤ xs.length ∧ xs.take ys.length = ys)) ∧ Ext w w') := by
  have hok := hx.ok
  have hle := hok.le
  refine Ctr_of Tryz.func73 Tryz.ntmps73 rfl rfl rfl ?_
  by_cases hl : ys.length ≤ xs.length
  · have ht := hx.take ys.length
    have htl : (xs.take ys.length).length = ys.length := by simp; omega
    have heq := fun (v : World) (h1 : Sl v.heap eByte p c (xs.take ys.length)) (h2 : Sl v.heap eByte q d ys) => bytes_equal (w := v) h1 h2
    simp only [htl] at heq
    repeat' (first | (apply G_on; exact rfl; first | ((first | apply G1_assign | apply G1_move); exact rfl; exact rfl) | (apply G1_sliceHiJ (q := ys.length); exact T.s22; exact rfl; exact rfl; exact rfl; omega; exact rfl) | (apply G1_call (f := 105); exact rfl; exact rfl; exact rfl; exact heq _ ht hy; rintro _ w2 ⟨rfl, hx2⟩; refine ⟨(by first | exact .inl rfl | exact .inr (by assumption)), ?_⟩) | (apply G1_len; exact T.s22; exact rfl; exact rfl) | (apply G1_geq; exact rfl; exact rfl; exact rfl) | (apply G1_pick_t; exact rfl; exact rfl; exact rfl)) | apply G_nil | apply Post_next | apply W_seq | apply W_region | ((fail_if_success (apply G_on; exact rfl)); apply G_split_dec; exact rfl; exact rfl; all_goals (intro h; try (exfalso; omega))) | apply W_ret)
    refine Post_ret Tryz.results73 ⟨_, _, rfl, rfl, rfl⟩ ?_
    refine ⟨?_, (by repeat first | assumption | exact Ext.rfl' | apply Ext.drew | apply Ext.alloc | refine Ext.trans ?_ (by assumption))⟩
    show Value.bool (decide _) = _
    congr 1
    rw [decide_eq_decide]
    exact ⟨fun h => ⟨hl, h⟩, fun h => h.2⟩
  · repeat' (first | (apply G_on; exact rfl; first | ((first | apply G1_assign | apply G1_move); exact rfl; exact rfl) | (apply G1_len; exact T.s22; exact rfl; exact rfl) | (apply G1_geq; exact rfl; exact rfl; exact rfl) | (apply G1_pick_f; exact rfl; exact rfl; exact rfl)) | apply G_nil | apply Post_next | apply W_seq | apply W_region | (apply G_off; exact rfl; exact rfl) | ((fail_if_success (apply G_on; exact rfl)); apply G_split_dec; exact rfl; exact rfl; all_goals (intro h; try (exfalso; omega))) | apply W_ret)
    refine Post_ret Tryz.results73 ⟨_, _, rfl, rfl, rfl⟩ ?_
    exact ⟨by rw [decide_eq_false (fun h => hl h.1)]; rfl, (by repeat first | assumption | exact Ext.rfl' | apply Ext.drew | apply Ext.alloc | refine Ext.trans ?_ (by assumption))⟩
theorem cut_no {p : Option Addr} {c : Nat} {bs : List UInt8} {n : Int} {w : World} (hC : Sl w.heap eByte p c bs) (h : ¬ (0 ≤ n ∧ n ≤ bs.length)) :
    Ctr Tryz.prog 40 [.slice p bs.length c, .int .i64 n] w (fun v w' => v = .tuple #[.string ⟨#[]⟩, .bool false] ∧ Ext w w') := by
  have n1 := hC.bound
  refine Ctr_of Tryz.func40 Tryz.ntmps40 rfl rfl rfl ?_
  repeat' (first | (apply G_on; exact rfl; first | ((first | apply G1_assign | apply G1_move); exact rfl; exact rfl) | ((first | apply G1_lss | apply G1_gtr); exact rfl; exact rfl; exact rfl) | (apply G1_len; exact T.s22; exact rfl; exact rfl) | (apply G1_pick_t; exact rfl; exact rfl; exact rfl) | (apply G1_pick_f; exact rfl; exact rfl; exact rfl)) | apply G_nil | apply Post_next | apply W_seq | apply W_region | (apply W_cond_true; exact rfl) | (apply G_off; exact rfl; exact rfl) | ((fail_if_success (apply G_on; exact rfl)); apply G_split_dec; exact rfl; exact rfl; all_goals (intro h; try (exfalso; omega))) | apply W_ret | apply Post_then_ret)
  all_goals
    refine Post_ret Tryz.results40 ⟨_, _, rfl, rfl, _, _, rfl, rfl, rfl⟩ ?_
    exact ⟨rfl, (by repeat first | assumption | exact Ext.rfl' | apply Ext.drew | apply Ext.alloc | refine Ext.trans ?_ (by assumption))⟩
theorem cut_spec {p : Option Addr} {c k : Nat} {bs : List UInt8} {w : World} (hC : Sl w.heap eByte p c bs) (hk : k ≤ bs.length) :
    Ctr Tryz.prog 40 [.slice p bs.length c, .int .i64 (k : Int)] w (fun v w' => v = (if (bs.drop k).take 2 = [13, 10] then .tuple #[.string (mkStr (bs.take k)), .bool true] else .tuple #[.string ⟨#[]⟩, .bool false]) ∧ Ext w w') := by
  have n1 := hC.bound
  have hok := hC.ok
  have hle := hok.le
  refine Ctr_of Tryz.func40 Tryz.ntmps40 rfl rfl rfl ?_
  repeat' (first | (apply G_on; exact rfl; first | ((first | apply G1_assign | apply G1_move); exact rfl; exact rfl) | (apply G1_sliceLoJ (q := k); exact T.s22; exact rfl; exact rfl; exact rfl; exact hok; omega; exact rfl) | ((first | apply G1_lss | apply G1_gtr); exact rfl; exact rfl; exact rfl) | (apply G1_len; exact T.s22; exact rfl; exact rfl) | (apply G1_pick_f; exact rfl; exact rfl; exact rfl)) | apply G_nil | apply Post_next | apply W_seq | apply W_region | ((fail_if_success (apply G_on; exact rfl)); apply G_split_dec; exact rfl; exact rfl; all_goals (intro h; try (exfalso; omega))))
  apply G_on; exact rfl
  apply G1_buildN eByte [13, 10]; exact T.s22; exact rfl; exact rfl; exact rfl; exact rfl; exact rfl; exact Nat.succ_pos _; exact Nat.le_of_ble_eq_true rfl; exact rfl; exact rfl
  intro p1 w1 ho1 hx1 hz1
  obtain ⟨gb, cur, hp1, hgb, hB, hcl, hcm, _, htk⟩ := ho1.toBlk (ho1.some_of_pos (by simp))
  subst hp1
  have hs1 := ho1.sl
  skip
  apply G_on; exact rfl
  apply G1_convMark; exact Tryz.underlying22; exact Tryz.underlying5; exact rfl; exact hB; exact hs1; exact rfl; exact rfl; exact rfl
  intro w2 hs2 hg2 hz2
  have hx2 : Ext w w2 := hx1.own hg2 (fun k hk => by injection hk; omega)
  have hC2 := hC.ext hx2
  have hd := hC2.drop (l := k) (by omega)
  have hp := fun v (h1 : Sl v.heap eByte (subp p c k 1) (c - k) (bs.drop k)) (h2 : Sl v.heap eByte (bx gb) 2 [13, 10]) => bytes_prefix (w := v) h1 h2
  simp only [List.length_drop] at hp
  have hC3 := hC2.take k
  have htk2 : (bs.take k).length = k := by simp; omega
  by_cases hcr : (bs.drop k).take 2 = [13, 10]
  · have hl2 : 2 ≤ bs.length - k := by
      have := congrArg List.length hcr
      simp at this
      omega
    have hb : decide (([13, 10] : List UInt8).length ≤ bs.length - k ∧ (bs.drop k).take ([13, 10] : List UInt8).length = [13, 10]) = true := decide_eq_true ⟨hl2, hcr⟩
    rw [hb] at hp
    rw [if_pos hcr]
    apply G_on; exact rfl; apply G1_call; exact rfl; exact rfl; exact rfl; exact hp _ hd hs2; rintro _ w3 ⟨rfl, hx3⟩; refine ⟨(by first | exact .inl rfl | exact .inr (by assumption)), ?_⟩
    have hC4 := hC3.ext hx3
    repeat' (first | (apply G_on; exact rfl; first | ((first | apply G1_assign | apply G1_move); exact rfl; exact rfl) | (apply G1_sliceHiJ (q := k); exact T.s22; exact rfl; exact rfl; exact rfl; omega; exact rfl) | (apply G1_toString (bs := bs.take k); exact T.s22; exact T.i5; exact T.str9; (rw [htk2]; exact rfl); exact hC4; exact rfl) | (apply G1_pick_f; exact rfl; exact rfl; exact rfl) | (apply G1_not_t; exact rfl; exact rfl)) | apply G_nil | apply Post_next | apply W_seq | apply W_region | (apply W_cond_false; exact rfl) | apply W_skip | apply W_ret)
    refine Post_ret Tryz.results40 ⟨_, _, rfl, rfl, _, _, rfl, rfl, rfl⟩ ?_
    exact ⟨rfl, (by repeat first | assumption | exact Ext.rfl' | apply Ext.drew | apply Ext.alloc | refine Ext.trans ?_ (by assumption))⟩
  · have hb : decide (([13, 10] : List UInt8).length ≤ bs.length - k ∧ (bs.drop k).take ([13, 10] : List UInt8).length = [13, 10]) = false := decide_eq_false (fun h => hcr h.2)
    rw [hb] at hp
    rw [if_neg hcr]
    apply G_on; exact rfl; apply G1_call; exact rfl; exact rfl; exact rfl; exact hp _ hd hs2; rintro _ w3 ⟨rfl, hx3⟩; refine ⟨(by first | exact .inl rfl | exact .inr (by assumption)), ?_⟩
    repeat' (first | (apply G_on; exact rfl; first | (apply G1_assign; exact rfl; exact rfl) | (apply G1_pick_f; exact rfl; exact rfl; exact rfl) | (apply G1_not_f; exact rfl; exact rfl)) | apply G_nil | apply Post_next | apply W_seq | apply W_region | (apply W_cond_true; exact rfl) | apply W_ret | apply Post_then_ret)
    refine Post_ret Tryz.results40 ⟨_, _, rfl, rfl, _, _, rfl, rfl, rfl⟩ ?_
    exact ⟨rfl, (by repeat first | assumption | exact Ext.rfl' | apply Ext.drew | apply Ext.alloc | refine Ext.trans ?_ (by assumption))⟩
end Go.Proofs.YtipbakiecocioaaGreatDoor

/- Rules for the bits of unsigned words. -/
namespace Go.V
open Go.RowKit
theorem ofInt_nat {b n : Nat} (h : n < 2 ^ b) : (BitVec.ofInt b (n : Int)).toNat = n := by
  rw [BitVec.toNat_ofInt]
  have : ((n : Int) % ((2 ^ b : Nat) : Int)) = (n : Int) := Int.emod_eq_of_lt (by omega) (by exact_mod_cast h)
  rw [this]; simp
theorem wrap_u64n {n : Nat} (h : n < 2 ^ 64) : IntKind.u64.wrap (n : Int) = n := wrap_u64 (by omega) (by have : n < 18446744073709551616 := h; omega)
theorem wrap_u8n {n : Nat} (h : n < 2 ^ 8) : IntKind.u8.wrap (n : Int) = n := wrap_u8 (by omega) (by have : n < 256 := h; omega)
section
variable {P : Program} {n : Nat} {ops : Array Oper} {dr : Nat × List Nat} {l : List Oper} {E : Env} {w : World} {K : Env → World → Prop}
variable {d : Option Nat} {ty : TypeId} {pos : String} {af : Array Edge} {g : Option (Nat × Bool)} {x y : Operand} {k k' : IntKind} {t t' : TypeId} {a b : Nat} {i j : Int}
theorem G1_orU (hx : E.look x = some (.int .u64 i)) (hy : E.look y = some (.int .u64 j)) (hi : i = (a : Int)) (hj : j = (b : Int)) (ha : a < 2 ^ 64) (hb : b < 2 ^ 64) (hd : dstOk n d = true)
    (h : G P n ops dr l (E.put d (.int .u64 ((a ||| b : Nat) : Int))) w K) : G1 P n ops dr ⟨d, .binOp .or t x y t', ty, pos, af, g⟩ l E w K := by
  subst hi hj
  exact G1_quiet _ hd (fun ac hac w' _ => by
    have e : Op.intBits .or .u64 (a : Int) (b : Int) = pure (.int .u64 ((a ||| b : Nat) : Int)) := by
      show (pure (Value.int .u64 (IntKind.u64.wrap ((BitVec.ofInt 64 (a : Int) ||| BitVec.ofInt 64 (b : Int)).toNat : Int))) : Sem Value) = _
      rw [BitVec.toNat_or, ofInt_nat ha, ofInt_nat hb, wrap_u64n (Nat.or_lt_two_pow ha hb)]
    simp [execOp, hac.eval hx, hac.eval hy, eqGuard, binOp, e]) h
theorem G1_andU (hx : E.look x = some (.int .u64 i)) (hy : E.look y = some (.int .u64 j)) (hi : i = (a : Int)) (hj : j = (b : Int)) (ha : a < 2 ^ 64) (hb : b < 2 ^ 64) (hd : dstOk n d = true)
    (h : G P n ops dr l (E.put d (.int .u64 ((a &&& b : Nat) : Int))) w K) : G1 P n ops dr ⟨d, .binOp .and t x y t', ty, pos, af, g⟩ l E w K := by
  subst hi hj
  exact G1_quiet _ hd (fun ac hac w' _ => by
    have e : Op.intBits .and .u64 (a : Int) (b : Int) = pure (.int .u64 ((a &&& b : Nat) : Int)) := by
      show (pure (Value.int .u64 (IntKind.u64.wrap ((BitVec.ofInt 64 (a : Int) &&& BitVec.ofInt 64 (b : Int)).toNat : Int))) : Sem Value) = _
      rw [BitVec.toNat_and, ofInt_nat ha, ofInt_nat hb, wrap_u64n (Nat.and_lt_two_pow _ hb)]
    simp [execOp, hac.eval hx, hac.eval hy, eqGuard, binOp, e]) h
theorem G1_notU (hx : E.look x = some (.int .u64 i)) (hi : i = (a : Int)) (ha : a < 2 ^ 64) (hd : dstOk n d = true)
    (h : G P n ops dr l (E.put d (.int .u64 (((2 ^ 64 - 1) ^^^ a : Nat) : Int))) w K) : G1 P n ops dr ⟨d, .unOp .xor t x, ty, pos, af, g⟩ l E w K := by
  subst hi
  exact G1_quiet _ hd (fun ac hac w' _ => by
    have e : Op.unary .xor (.int .u64 (a : Int)) = pure (.int .u64 (((2 ^ 64 - 1) ^^^ a : Nat) : Int)) := by
      show (pure (Value.int .u64 (IntKind.u64.wrap ((BitVec.ofInt 64 (18446744073709551615 : Int) ^^^ BitVec.ofInt 64 (a : Int)).toNat : Int))) : Sem Value) = _
      have e1 : (BitVec.ofInt 64 (18446744073709551615 : Int)).toNat = 2 ^ 64 - 1 := by decide
      rw [BitVec.toNat_xor, e1, ofInt_nat ha, wrap_u64n (Nat.xor_lt_two_pow (by decide) ha)]
    simp [execOp, hac.eval hx, e]) h
theorem G1_shlU {c : Nat} (hx : E.look x = some (.int .u64 1)) (hy : E.look y = some (.int k' j)) (hj : j = (c : Int)) (hc : c < 64) (hd : dstOk n d = true)
    (h : G P n ops dr l (E.put d (.int .u64 ((2 ^ c : Nat) : Int))) w K) : G1 P n ops dr ⟨d, .binOp .shl t x y t', ty, pos, af, g⟩ l E w K := by
  subst hj
  refine G1_shl hx hy (by omega) hd ?_
  have e : IntKind.u64.wrap ((1 : Int) * 2 ^ min (c : Int).toNat IntKind.u64.bits) = ((2 ^ c : Nat) : Int) := by
    have e1 : min (c : Int).toNat IntKind.u64.bits = c := by
      have : IntKind.u64.bits = 64 := rfl
      rw [this]; simp; omega
    rw [e1, Int.one_mul]
    have e2 : (2 : Int) ^ c = ((2 ^ c : Nat) : Int) := by push_cast; rfl
    rw [e2, wrap_u64n (Nat.pow_lt_pow_right (by decide) hc)]
  rw [e]; exact h
theorem G1_shrU {c : Nat} (hx : E.look x = some (.int .u64 i)) (hy : E.look y = some (.int k' j)) (hi : i = (a : Int)) (hj : j = (c : Int)) (hc : c < 64) (hd : dstOk n d = true)
    (h : G P n ops dr l (E.put d (.int .u64 ((a >>> c : Nat) : Int))) w K) : G1 P n ops dr ⟨d, .binOp .shr t x y t', ty, pos, af, g⟩ l E w K := by
  subst hi hj
  refine G1_shr hx hy (by omega) hd ?_
  have e : (a : Int).fdiv (2 ^ min (c : Int).toNat IntKind.u64.bits) = ((a >>> c : Nat) : Int) := by
    have e1 : min (c : Int).toNat IntKind.u64.bits = c := by
      have : IntKind.u64.bits = 64 := rfl
      rw [this]; simp; omega
    rw [e1, Int.fdiv_eq_ediv_of_nonneg _ (by exact_mod_cast Nat.zero_le _), Nat.shiftRight_eq_div_pow]
    push_cast
    rfl
  rw [e]; exact h
theorem G1_sindexJ {q : Nat} {s : ByteArray} (hu : StrT P t) (hx : E.look x = some (.string s)) (hy : E.look y = some (.int k j)) (hj : j = (q : Int)) (hq : q < s.size) (hd : dstOk n d = true)
    (h : G P n ops dr l (E.put d (.int .u8 ((bget s q).toNat : Int))) w K) : G1 P n ops dr ⟨d, .index t x y, ty, pos, af, g⟩ l E w K := by
  subst hj
  refine G1_sindex hu hx hy (by omega) (by omega) hd ?_
  rw [Int.toNat_natCast]; exact h
theorem G1_addU8 {c : Nat} (hx : E.look x = some (.int .u8 i)) (hy : E.look y = some (.int .u8 j)) (hc : i + j = (c : Int)) (hb : c < 256) (hd : dstOk n d = true)
    (h : G P n ops dr l (E.put d (.int .u8 (c : Int))) w K) : G1 P n ops dr ⟨d, .binOp .add t x y t', ty, pos, af, g⟩ l E w K :=
  G1_addw hx hy hd (by rw [hc, wrap_u8n hb]; exact h)
theorem G1_subU8 {c : Nat} (hx : E.look x = some (.int .u8 i)) (hy : E.look y = some (.int .u8 j)) (hc : i - j = (c : Int)) (hb : c < 256) (hd : dstOk n d = true)
    (h : G P n ops dr l (E.put d (.int .u8 (c : Int))) w K) : G1 P n ops dr ⟨d, .binOp .sub t x y t', ty, pos, af, g⟩ l E w K :=
  G1_subw hx hy hd (by rw [hc, wrap_u8n hb]; exact h)
theorem G1_quoU {c : Nat} (hx : E.look x = some (.int .u8 i)) (hy : E.look y = some (.int .u8 j)) (hi : i = (a : Int)) (hj : j = (c : Int)) (ha : a < 256) (hc : 0 < c) (hd : dstOk n d = true)
    (h : G P n ops dr l (E.put d (.int .u8 ((a / c : Nat) : Int))) w K) : G1 P n ops dr ⟨d, .binOp .quo t x y t', ty, pos, af, g⟩ l E w K := by
  subst hi hj
  refine G1_quo hx hy (by omega) hd ?_
  have e : IntKind.u8.wrap ((a : Int).tdiv (c : Int)) = ((a / c : Nat) : Int) := by
    rw [Int.tdiv_eq_ediv_of_nonneg (by omega)]
    have : ((a : Int) / (c : Int)) = ((a / c : Nat) : Int) := by push_cast; rfl
    rw [this, wrap_u8n (Nat.lt_of_le_of_lt (Nat.div_le_self _ _) ha)]
  rw [e]; exact h
theorem G1_quoU' {c q : Nat} (hx : E.look x = some (.int .u8 i)) (hy : E.look y = some (.int .u8 j)) (hi : i = (a : Int)) (hj : j = (c : Int)) (ha : a < 256) (hc : 0 < c) (hq : a / c = q) (hd : dstOk n d = true)
    (h : G P n ops dr l (E.put d (.int .u8 (q : Int))) w K) : G1 P n ops dr ⟨d, .binOp .quo t x y t', ty, pos, af, g⟩ l E w K := by
  subst hq; exact G1_quoU hx hy hi hj ha hc hd h
theorem G1_remU {c : Nat} (hx : E.look x = some (.int .u8 i)) (hy : E.look y = some (.int .u8 j)) (hi : i = (a : Int)) (hj : j = (c : Int)) (hc : 0 < c) (hd : dstOk n d = true)
    (h : G P n ops dr l (E.put d (.int .u8 ((a % c : Nat) : Int))) w K) : G1 P n ops dr ⟨d, .binOp .rem t x y t', ty, pos, af, g⟩ l E w K := by
  subst hi hj
  refine G1_rem hx hy (by omega) hd ?_
  have e : ((a : Int).tmod (c : Int)) = ((a % c : Nat) : Int) := by
    rw [Int.tmod_eq_emod_of_nonneg (by omega)]; push_cast; rfl
  rw [e]; exact h
end
end Go.V

/- Ranging over a string; scopes; a rune's string. -/
namespace Go.V
open Go.RowKit
/-- the iterator that stands in a block -/
def Itr (w : World) (k : Nat) (s : ByteArray) (pos : Nat) : Prop := w.heap[k]? = some (.stringIter s pos)
theorem Itr.ext {w w' : World} {k : Nat} {s : ByteArray} {pos : Nat} (h : Itr w k s pos) (hx : Ext w w') : Itr w' k s pos := hx.blk h
section
variable {P : Program} {n : Nat} {ops : Array Oper} {dr : Nat × List Nat} {l : List Oper} {E : Env} {w : World} {K : Env → World → Prop}
variable {d : Option Nat} {ty : TypeId} {pos : String} {af : Array Edge} {g : Option (Nat × Bool)} {x y : Operand} {k : Nat} {t t' u : TypeId} {i j r : Int} {s : ByteArray} {m : Nat}
theorem G1_rangeS (hu : StrT P t) (hx : E.look x = some (.string s)) (he : effects P dr.1 ⟨d, .range t x, ty, pos, af, g⟩ = true) (hd : dstOk n d = true)
    (h : ∀ w', Itr w' w.heap.size s 0 → Ext w w' → w'.heap.size = w.heap.size + 1 → G P n ops dr l (E.put d (.pointer (some ⟨w.heap.size, 0, none⟩))) w' K) : G1 P n ops dr ⟨d, .range t x, ty, pos, af, g⟩ l E w K :=
  G1_eff _ (w.alloc (.stringIter s 0)) he hd (fun a ha => by simp [execOp, ha.eval hx, Instr.range, run_underlying (P := P) hu, newObj]; rfl) (.inr (Ext.alloc Ext.rfl' _).toS)
    (h _ (by unfold Itr; exact heap_alloc_new w _) (Ext.alloc Ext.rfl' _) (by simp))
theorem G1_nextS {v : Nat × Nat} (hx : E.look x = some (.pointer (some ⟨k, 0, none⟩))) (hk : Itr w k s m) (hm : m < s.size) (hv : Utf8.decode s m = v) (he : effects P dr.1 ⟨d, .next x true, ty, pos, af, g⟩ = true) (hw : writes dr.1 ⟨d, .next x true, ty, pos, af, g⟩ = true) (hd : dstOk n d = true)
    (h : ∀ w', Itr w' k s (m + v.2) → w.grownBy w' (some k) → w'.heap.size = w.heap.size → G P n ops dr l (E.put d (.tuple #[.bool true, .int .i64 (m : Int), .int .i32 (v.1 : Int)])) w' K) : G1 P n ops dr ⟨d, .next x true, ty, pos, af, g⟩ l E w K := by
  subst hv
  have hlt : k < w.heap.size := (Array.getElem?_eq_some_iff.1 hk).1
  refine G1_eff _ (w.iterAt k s (m + (Utf8.decode s m).2)) he hd (fun a ha => by simp [execOp, ha.eval hx, Lib.run_next_any_at w k s m ty hk hm]) (.inl hw) (h _ ?_ ?_ (by simp [World.iterAt]))
  · exact Lib.iterAt_heap w k s m _ hk
  · refine ⟨rfl, rfl, rfl, by simp [World.iterAt], fun q hq hne => ?_⟩
    simp only [World.iterAt]
    rw [Array.getElem?_setIfInBounds_ne (by intro e; subst e; exact hne rfl)]
theorem G1_nextE (hx : E.look x = some (.pointer (some ⟨k, 0, none⟩))) (hk : Itr w k s m) (hm : ¬ m < s.size) (he : effects P dr.1 ⟨d, .next x true, ty, pos, af, g⟩ = true) (hw : writes dr.1 ⟨d, .next x true, ty, pos, af, g⟩ = true) (hd : dstOk n d = true)
    (h : G P n ops dr l (E.put d (.tuple #[.bool false])) w K) : G1 P n ops dr ⟨d, .next x true, ty, pos, af, g⟩ l E w K :=
  G1_eff _ w he hd (fun a ha => by simp [execOp, ha.eval hx, Lib.run_next_end_at w k s m ty hk hm]) (.inl hw) h
theorem G1_runeStr {kk kk' : IntKind} (hi : IntT P t kk) (hk : StrT P t') (hx : E.look x = some (.int kk' i)) (hd : dstOk n d = true)
    (h : G P n ops dr l (E.put d (.string (Utf8.encode i))) w K) : G1 P n ops dr ⟨d, .convert t t' x, ty, pos, af, g⟩ l E w K :=
  G1_quiet _ hd (fun a ha w' _ => by simp [execOp, convert, ha.eval hx, run_underlying (P := P) hi, run_underlying (P := P) hk, Conv.intToString]) h
variable {Q : Exit → Act → World → Prop}
theorem W_scope {c : Code} (h : W P n c (Exit.noGoto Q) E w) : W P n (.scope c) Q E w := by
  unfold W at *
  exact fun a ha => wp_scope_straight (h a ha)
theorem Post_scope_normal (h : Post n Q .normal E w) : Post n (Exit.noGoto Q) .normal E w := by unfold Post at *; exact h
theorem Post_scope_ret (h : Post n Q .ret E w) : Post n (Exit.noGoto Q) .ret E w := by unfold Post at *; exact h
theorem Post_scope_exit {id : Nat} (h : Post n Q (.exit id) E w) : Post n (Exit.noGoto Q) (.exit id) E w := by unfold Post at *; exact h
end
theorem bget_get' {s : ByteArray} {k : Nat} (h : k < s.size) : s.get! k = bget s k := by
  rw [bget_list]
  have h' : k < s.data.toList.length := by rw [Array.length_toList]; exact h
  have h2 : k < s.data.size := h
  rw [List.getD_eq_getElem?_getD, List.getElem?_eq_getElem h']
  simp only [ByteArray.get!]
  rw [getElem!_pos s.data k h2]
  simp
theorem bget_idx {s : ByteArray} {k : Nat} (h : k < s.size) : bget s k = s[k]'h := by rw [← bget_get' h]; exact get_at s k h
/-- what is decoded at a byte that is no ASCII: nothing of ASCII, and nothing of ASCII is left out -/
theorem decode_skip (s : ByteArray) (i : Nat) (h : i < s.size) (hb : 128 ≤ (bget s i).toNat) : 128 ≤ (Utf8.decode s i).1 ∧ (Utf8.decode s i).1 ≤ 2147483647 ∧ 1 ≤ (Utf8.decode s i).2 ∧ i + (Utf8.decode s i).2 ≤ s.size ∧ ∀ j, i ≤ j → j < i + (Utf8.decode s i).2 → 128 ≤ (bget s j).toNat := by
  have hg : ∀ k, i + k < s.size → (s.get! (i + k)).toNat = (bget s (i + k)).toNat := fun k hk => by
    rw [bget_get' hk]
  have h0 := hg 0 (by omega)
  rw [Nat.add_zero] at h0
  have hn : ¬ (s.get! i).toNat < 128 := by omega
  have step : ∀ (d : Nat × Nat), 128 ≤ d.1 → d.1 ≤ 2147483647 → 1 ≤ d.2 → d.2 ≤ 4 → (∀ k, 1 ≤ k → k < d.2 → i + k < s.size ∧ (s.get! (i + k)).toNat / 64 = 2) →
      128 ≤ d.1 ∧ d.1 ≤ 2147483647 ∧ 1 ≤ d.2 ∧ i + d.2 ≤ s.size ∧ ∀ j, i ≤ j → j < i + d.2 → 128 ≤ (bget s j).toNat := by
    intro d a1 a2 a3 a4 a5
    refine ⟨a1, a2, a3, ?_, ?_⟩
    · by_cases h1 : d.2 = 1
      · omega
      · have := (a5 (d.2 - 1) (by omega) (by omega)).1; omega
    · intro j hj1 hj2
      by_cases hji : j = i
      · rw [hji]; exact hb
      · obtain ⟨b1, b2⟩ := a5 (j - i) (by omega) (by omega)
        have b3 := hg (j - i) b1
        rw [show i + (j - i) = j by omega] at b2 b3
        omega
  have h1 := decode_high s i h (by rw [← bget_idx h]; exact hb)
  have h2 := decode_le s i
  have hw : (Utf8.decode s i).2 ≤ 4 ∧ ∀ k, 1 ≤ k → k < (Utf8.decode s i).2 → i + k < s.size ∧ (s.get! (i + k)).toNat / 64 = 2 := by
    simp only [Utf8.decode, Nat.add_zero, hn, if_false]
    repeat' split
    all_goals refine ⟨by simp, fun k hk1 hk2 => ?_⟩
    all_goals simp only [Bool.and_eq_true, decide_eq_true_eq, beq_iff_eq] at *
    all_goals try (exfalso; omega)
    all_goals rcases (show k = 1 ∨ k = 2 ∨ k = 3 by omega) with rfl | rfl | rfl
    all_goals first
      | (exfalso; omega)
      | exact ⟨by omega, by omega⟩
  exact step _ h1.1 h2 h1.2 hw.1 hw.2
theorem rune_facts (r : Nat) (h : 128 ≤ r) : 2 ≤ (Utf8.encode (r : Int)).size ∧ (Utf8.encode (r : Int)).size ≤ 4 ∧ 128 ≤ (bget (Utf8.encode (r : Int)) ((Utf8.encode (r : Int)).size - 1)).toNat := by
  unfold Utf8.encode
  simp only
  generalize hc : (if Utf8.valid (r : Int) = true then (r : Int).toNat else Utf8.runeError) = c
  have hc1 : 128 ≤ c := by
    rw [← hc]; split
    · omega
    · decide
  rw [if_neg (by omega)]
  split
  · refine ⟨Nat.le_of_ble_eq_true rfl, Nat.le_of_ble_eq_true rfl, ?_⟩
    show 128 ≤ (UInt8.ofNat (0x80 + c % 64)).toNat
    rw [UInt8.toNat_ofNat']; omega
  · split
    · refine ⟨Nat.le_of_ble_eq_true rfl, Nat.le_of_ble_eq_true rfl, ?_⟩
      show 128 ≤ (UInt8.ofNat (0x80 + c % 64)).toNat
      rw [UInt8.toNat_ofNat']; omega
    · refine ⟨Nat.le_of_ble_eq_true rfl, Nat.le_of_ble_eq_true rfl, ?_⟩
      show 128 ≤ (UInt8.ofNat (0x80 + c % 64)).toNat
      rw [UInt8.toNat_ofNat']; omega
end Go.V

/- strings.ContainsAny where the ends of lines are looked for. -/
namespace Go.V
open Go.RowKit
section
variable {P : Program} {n : Nat} {ops : Array Oper} {dr : Nat × List Nat} {l : List Oper} {E : Env} {w : World} {K : Env → World → Prop}
variable {d : Option Nat} {ty : TypeId} {pos : String} {af : Array Edge} {g : Option (Nat × Bool)} {x y : Operand} {i : Int}
/-- the library's search for a byte -/
theorem G1_indexByte {f : FuncId} {fn : Func} {s : ByteArray} {tys : Array TypeId} (hf : P.funcs[f]? = some fn) (hname : (fn.name == "runtime.NumGoroutine") = false) (hb : fn.body.isNone = true) (hn : Extern.findNext fn = none) (hfi : Extern.find fn = some Extern.BytealgIndexByte.indexByte)
    (hx : E.look x = some (.string s)) (hy : E.look y = some (.int .u8 i)) (he : effects P dr.1 ⟨d, .call ⟨.value (.func f), #[x, y], tys⟩, ty, pos, af, g⟩ = true) (hd : dstOk n d = true)
    (h : G P n ops dr l (E.put d (.int .i64 (firstIdx s i.toNat.toUInt8))) w K) : G1 P n ops dr ⟨d, .call ⟨.value (.func f), #[x, y], tys⟩, ty, pos, af, g⟩ l E w K := by
  have hr : (callFunc f #[.string s, .int .u8 i]).run P w = .ok (.value (.int .i64 (firstIdx s i.toNat.toUInt8))) w := by
    rw [run_callFunc_extern hf hname hb hn hfi, run_indexByte_string]
    rfl
  exact G1_eff _ w he hd (fun a ha => by
    have e0 : a.eval (.func f) = .func (.func f) #[] #[] := rfl
    simp [execOp, resolve, Deferred.ofValue, e0, invoke, ha.eval hx, ha.eval hy, hr]) (.inr ExtS.rfl') h
end
def brs : ByteArray := ⟨#[13, 10]⟩
def isBr (c : UInt8) : Bool := c == 13 || c == 10
theorem br_idx (c : UInt8) : decide (0 ≤ firstIdx brs c) = isBr c := by
  have key : ∀ n : Fin 256, decide (0 ≤ firstIdx brs (UInt8.ofNat n.val)) = isBr (UInt8.ofNat n.val) := by decide +kernel
  have h := key ⟨c.toNat, UInt8.toNat_lt c⟩
  simpa using h
theorem toUInt8_nat (c : UInt8) : ((c.toNat : Int)).toNat.toUInt8 = c := by simp
end Go.V
namespace Go.Proofs.YtipbakiecocioaaGreatDoor
open Go.V
attribute [local irreducible] Blk Own hcell IntT SliceT PlainT AggT SizeT StrT FieldT ZeroT EqT ArrT
theorem ib0 : Extern.findNext Tryz.f74 = none := by kernel_rfl
theorem ib1 : Extern.find Tryz.f74 = some Extern.BytealgIndexByte.indexByte := by kernel_rfl
theorem lite_index {s : ByteArray} {i : Int} {w : World} : Ctr Tryz.prog 143 [.string s, .int .u8 i] w (fun v w' => v = .int .i64 (firstIdx s i.toNat.toUInt8) ∧ Ext w w') := by
  refine Ctr_of Tryz.func143 Tryz.ntmps143 rfl rfl rfl ?_
  repeat' (first | (apply G_on; exact rfl; first | ((first | apply G1_assign | apply G1_move); exact rfl; exact rfl) | (apply G1_indexByte; exact Tryz.func74; exact rfl; exact rfl; exact ib0; exact ib1; exact rfl; exact rfl; exact rfl; exact rfl)) | apply G_nil | apply Post_next | apply W_seq | apply W_region | (apply W_cond_true; exact rfl) | (apply W_cond_false; exact rfl) | (apply W_cond_dec; exact rfl; all_goals (intro h; try (exfalso; omega))) | (apply W_cond; exact rfl; all_goals intro h) | (apply G_off; exact rfl; exact rfl) | ((fail_if_success (apply G_on; exact rfl)); apply G_split_dec; exact rfl; exact rfl; all_goals (intro h; try (exfalso; omega))) | ((fail_if_success (apply G_on; exact rfl)); apply G_split; exact rfl; exact rfl; all_goals intro h) | apply W_skip | apply W_exit | apply W_ret | apply W_block | apply Post_then_ret | apply Post_block_ret | apply Post_then_exit | apply Post_block_exit | (apply Post_block_other; exact rfl) | apply Post_block_normal)
  refine Post_ret Tryz.results143 ⟨_, _, rfl, rfl, rfl⟩ ?_
  exact ⟨rfl, (by repeat first | assumption | exact Ext.rfl' | apply Ext.drew | apply Ext.alloc | refine Ext.trans ?_ (by assumption))⟩

theorem list_bget {s : ByteArray} {k : Nat} (h : k < s.size) : s.data.toList[k]? = some (bget s k) := by
  have h' : k < s.data.toList.length := by rw [Array.length_toList]; exact h
  have h2 : k < s.data.size := h
  rw [List.getElem?_eq_getElem h', bget_list, List.getD_eq_getElem?_getD, List.getElem?_eq_getElem h']
  rfl
theorem validRune {c : Int} {w : World} : Ctr Tryz.prog 106 [.int .i32 c] w (fun v w' => ∃ b, v = .bool b ∧ Ext w w') := by
  refine Ctr_of Tryz.func106 Tryz.ntmps106 rfl rfl rfl ?_
  repeat' (first | (apply G_on; exact rfl; first | ((first | apply G1_assign | apply G1_move); exact rfl; exact rfl) | ((first | apply G1_leq | apply G1_lss); exact rfl; exact rfl; exact rfl) | (apply G1_pick_t; exact rfl; exact rfl; exact rfl) | (apply G1_pick_f; exact rfl; exact rfl; exact rfl)) | apply G_nil | apply Post_next | apply W_seq | apply W_region | (apply W_cond_true; exact rfl) | (apply W_cond_false; exact rfl) | (apply W_cond_dec; exact rfl; all_goals (intro h; try (exfalso; omega))) | (apply W_cond; exact rfl; all_goals intro h) | (apply G_off; exact rfl; exact rfl) | ((fail_if_success (apply G_on; exact rfl)); apply G_split_dec; exact rfl; exact rfl; all_goals (intro h; try (exfalso; omega))) | ((fail_if_success (apply G_on; exact rfl)); apply G_split; exact rfl; exact rfl; all_goals intro h) | apply W_skip | apply W_exit | apply W_ret | apply W_block | apply Post_then_ret | apply Post_block_ret | apply Post_then_exit | apply Post_block_exit | (apply Post_block_other; exact rfl) | apply Post_block_normal)
  all_goals
    refine Post_ret Tryz.results106 ⟨_, _, rfl, rfl, rfl⟩ ?_
    exact ⟨_, rfl, (by repeat first | assumption | exact Ext.rfl' | apply Ext.drew | apply Ext.alloc | refine Ext.trans ?_ (by assumption))⟩
theorem br_get {k : Nat} (h : k < 2) : 10 ≤ (bget brs k).toNat ∧ (bget brs k).toNat < 128 := by
  have key : ∀ n : Fin 2, 10 ≤ (bget brs n.val).toNat ∧ (bget brs n.val).toNat < 128 := by decide
  exact key ⟨k, h⟩
theorem br_dec {k : Nat} (h : k < brs.size) : Utf8.decode brs k = ((bget brs k).toNat, 1) := by
  rw [decode_ascii brs k h (by rw [← bget_idx h]; exact (br_get h).2), bget_idx h]
theorem br_size : brs.size = 2 := rfl
theorem br_rest {q : Nat} {x : UInt8} (hq : q < 2) (hx : 128 ≤ x.toNat) : firstIdx (brs.extract (q + 1) brs.size) x = -1 := by
  have key : ∀ (m : Fin 2) (n : Fin 128), firstIdx (brs.extract (m.val + 1) brs.size) (UInt8.ofNat (128 + n.val)) = -1 := by decide +kernel
  have h := key ⟨q, hq⟩ ⟨x.toNat - 128, by have := x.toNat_lt; omega⟩
  rw [show 128 + (x.toNat - 128) = x.toNat by omega, UInt8.ofNat_toNat] at h
  exact h


def hasBr (l : List UInt8) : Bool := l.any isBr
theorem br_lo {c : UInt8} (h : isBr c = true) : c.toNat < 128 := by
  have key : ∀ n : Fin 256, isBr (UInt8.ofNat n.val) = true → n.val < 128 := by decide +kernel
  exact key ⟨c.toNat, c.toNat_lt⟩ (by rw [UInt8.ofNat_toNat]; exact h)
theorem hasBr_ext {s : ByteArray} {m m' : Nat} (h0 : hasBr (s.data.toList.take m) = false) (hm : m ≤ m') (hno : ∀ j, m ≤ j → j < m' → isBr (bget s j) = false) (hs : m' ≤ s.size) : hasBr (s.data.toList.take m') = false := by
  have key : ∀ d, m + d ≤ m' → hasBr (s.data.toList.take (m + d)) = false := by
    intro d
    induction d with
    | zero => intro _; exact h0
    | succ d ih =>
      intro hd
      have h1 := ih (by omega)
      have h2 := list_bget (s := s) (k := m + d) (by omega)
      rw [show m + (d + 1) = (m + d) + 1 by omega, List.take_add_one, h2]
      unfold hasBr at h1 ⊢
      rw [List.any_append, h1]
      have := hno (m + d) (by omega) (by omega)
      simp [this]
  have := key (m' - m) (by omega)
  rwa [show m + (m' - m) = m' by omega] at this
theorem hasBr_yes {s : ByteArray} {m : Nat} (hm : m < s.size) (h : isBr (bget s m) = true) : hasBr s.data.toList = true := by
  unfold hasBr
  exact List.any_eq_true.2 ⟨bget s m, List.mem_of_getElem? (list_bget hm), h⟩

theorem any_br : ∀ l : List UInt8, decide (0 ≤ Lib.indexAny l brs.data.toList) = hasBr l
  | [] => by decide
  | b :: l => by
    have ih := any_br l
    have hc : brs.data.toList.contains b = isBr b := by
      show [(13 : UInt8), 10].contains b = _
      simp [isBr, Bool.or_assoc]; rfl
    have hg := Lib.indexAny_ge brs.data.toList l
    unfold Lib.indexAny
    rw [hc]
    have e : hasBr (b :: l) = (isBr b || hasBr l) := rfl
    rw [e]
    cases hb : isBr b with
    | true => simp
    | false =>
      rw [← ih]
      simp only [Bool.false_eq_true, if_false, Bool.false_or]
      by_cases h1 : Lib.indexAny l brs.data.toList = -1
      · rw [h1]; decide
      · rw [if_neg (by simpa using h1)]
        apply decide_eq_decide.2
        omega



theorem nobr_has (s : ByteArray) : hasBr s.data.toList = !nobr s := by
  unfold hasBr nobr
  rw [List.not_all_eq_any_not]
  congr 1
  funext b
  unfold isBr
  by_cases h1 : b = 13 <;> by_cases h2 : b = 10 <;> simp [h1, h2]

end Go.Proofs.YtipbakiecocioaaGreatDoor

/- bytes.IndexAny at the ends of lines: its set of signs. -/
namespace Go.Proofs.YtipbakiecocioaaGreatDoor
open Go.V
attribute [local irreducible] Blk Own hcell IntT SliceT PlainT AggT SizeT StrT FieldT ZeroT EqT ArrT
/-- the set's cells after k of the two signs -/
def setC (k : Nat) : List Value := (List.range 256).map (fun i => Value.bool ((decide (i = 13) && decide (0 < k)) || (decide (i = 10) && decide (1 < k))))
theorem zrSet : ZeroT Tryz.prog 140 (.agg (setC 0).toArray) := ZeroT.of (by kernel_rfl)
theorem should_spec {n : Int} {w : World} : Ctr Tryz.prog 76 [.int .i64 n] w (fun v w' => v = .bool (decide (8 < n)) ∧ Ext w w') := by
  refine Ctr_of Tryz.func76 Tryz.ntmps76 rfl rfl rfl ?_
  repeat' (first | (apply G_on; exact rfl; first | ((first | apply G1_assign | apply G1_move); exact rfl; exact rfl) | (apply G1_gtr; exact rfl; exact rfl; exact rfl)) | apply G_nil | apply Post_next | apply W_seq | apply W_region | apply W_ret)
  refine Post_ret Tryz.results76 ⟨_, _, rfl, rfl, rfl⟩ ?_
  exact ⟨rfl, (by repeat first | assumption | exact Ext.rfl' | apply Ext.drew | apply Ext.alloc | refine Ext.trans ?_ (by assumption))⟩
set_option maxRecDepth 100000 in
theorem mkset_spec {w : World} : Ctr Tryz.prog 77 [.string brs] w (fun v w' => v = .tuple #[.agg (setC 2).toArray, .bool true] ∧ Ext w w') := by
  have hss := br_size
  refine Ctr_of Tryz.func77 Tryz.ntmps77 rfl rfl rfl ?_
  repeat' (first | apply W_seq | apply W_region)
  apply G_on; exact rfl; apply G1_alloc; exact zrSet; exact rfl; exact rfl; intro a1 w1 ha1 hA1 hx1 hs1
  replace hA1 : Blk w1.heap a1 140 (setC 0) := hA1
  repeat' (first | (apply G_on; exact rfl; (apply G1_assign; exact rfl; exact rfl)) | apply G_nil | apply Post_next | apply W_seq | apply W_region | apply W_block)
  refine W_loop (ι := Nat) (fun k => [(0, .string brs), (2, .pointer (some (adr (bx a1) 0))), (4, .int .i64 (k : Int))]) (fun k w' => Ext w w' ∧ Blk w'.heap a1 140 (setC k) ∧ k ≤ 2) (fun k => 2 - k) 0 ⟨rfl, rfl, rfl, trivial⟩ ⟨hx1, hA1, Nat.zero_le _⟩ ?_
  clear hA1 hx1
  rintro k w2 ⟨hx2, hA2, hk⟩
  have setB : ∀ (j : Nat) (H : Array Obj) (cs : List Value), cs = setC j → Blk H a1 140 cs → Blk H a1 140 (setC j) := fun j H cs h hb => h ▸ hb
  rcases (show k = 0 ∨ k = 1 ∨ k = 2 by omega) with rfl | rfl | rfl
  · have hb0 : (bget brs 0).toNat = 13 := by decide
    repeat' (first | (apply G_on; exact rfl; first | ((first | apply G1_assign | apply G1_move); exact rfl; exact rfl) | (apply G1_sindexJ (q := 0) (s := brs); exact T.str9; exact rfl; exact rfl; exact rfl; omega; exact rfl) | (apply G1_slen; exact T.str9; exact rfl; exact rfl) | ((first | apply G1_lss | apply G1_geq); exact rfl; exact rfl; exact rfl) | (apply G1_indexArr; exact T.ar140; exact rfl; exact rfl; omega; omega; exact rfl)) | apply G_nil | apply Post_next | apply W_seq | apply W_region | (apply W_cond_true; exact rfl) | (apply W_cond_false; exact rfl) | apply W_skip | apply W_block)
    apply G_on; exact rfl
    apply G1_storeB (m := 13); exact T.z4; exact rfl; exact rfl; exact hA2; exact rfl; exact rfl; (simp [setC]); (simp [Value.cells, Value.oneCell']); exact rfl; exact .inl rfl; exact rfl
    intro w3 hA3 hg3 hs3
    replace hA3 := setB 1 _ _ (by kernel_rfl) hA3
    repeat' (first | (apply G_on; exact rfl; first | ((first | apply G1_assign | apply G1_move); exact rfl; exact rfl) | (apply G1_add; exact rfl; exact rfl; omega; omega; exact rfl)) | apply G_nil | apply Post_next | apply W_region | apply Post_block_normal)
    exact Post_round 1 ⟨rfl, rfl, rfl, trivial⟩ ⟨hx2.own hg3 (fun k hk => by injection hk; omega), hA3, by omega⟩ (by omega)
  · have hb0 : (bget brs 1).toNat = 10 := by decide
    repeat' (first | (apply G_on; exact rfl; first | ((first | apply G1_assign | apply G1_move); exact rfl; exact rfl) | (apply G1_sindexJ (q := 1) (s := brs); exact T.str9; exact rfl; exact rfl; exact rfl; omega; exact rfl) | (apply G1_slen; exact T.str9; exact rfl; exact rfl) | ((first | apply G1_lss | apply G1_geq); exact rfl; exact rfl; exact rfl) | (apply G1_indexArr; exact T.ar140; exact rfl; exact rfl; omega; omega; exact rfl)) | apply G_nil | apply Post_next | apply W_seq | apply W_region | (apply W_cond_true; exact rfl) | (apply W_cond_false; exact rfl) | apply W_skip | apply W_block)
    apply G_on; exact rfl
    apply G1_storeB (m := 10); exact T.z4; exact rfl; exact rfl; exact hA2; exact rfl; exact rfl; (simp [setC]); (simp [Value.cells, Value.oneCell']); exact rfl; exact .inl rfl; exact rfl
    intro w3 hA3 hg3 hs3
    replace hA3 := setB 2 _ _ (by kernel_rfl) hA3
    repeat' (first | (apply G_on; exact rfl; first | ((first | apply G1_assign | apply G1_move); exact rfl; exact rfl) | (apply G1_add; exact rfl; exact rfl; omega; omega; exact rfl)) | apply G_nil | apply Post_next | apply W_region | apply Post_block_normal)
    exact Post_round 2 ⟨rfl, rfl, rfl, trivial⟩ ⟨hx2.own hg3 (fun k hk => by injection hk; omega), hA3, by omega⟩ (by omega)
  · repeat' (first | (apply G_on; exact rfl; first | (apply G1_move; exact rfl; exact rfl) | (apply G1_slen; exact T.str9; exact rfl; exact rfl) | (apply G1_lss; exact rfl; exact rfl; exact rfl) | (apply G1_loadBAgg; exact T.a140; exact rfl; assumption; exact rfl; exact rfl)) | apply G_nil | apply Post_next | apply W_seq | apply W_region | (apply W_cond_false; exact rfl) | apply W_exit | apply Post_then_exit | apply Post_block_exit)
    apply G_on; exact rfl
    apply G1_storeB (m := 0) (vs := setC 2); exact T.z140; exact rfl; exact rfl; exact hA2; exact rfl; (simp [setC]); (simp [setC]); (intro v hv; simp only [setC, List.mem_map] at hv; obtain ⟨i, _, rfl⟩ := hv; rfl); exact rfl; exact .inl rfl; exact rfl
    intro w3 hA3 hg3 hs3
    replace hA3 := setB 2 _ _ (by kernel_rfl) hA3
    have hx3 : Ext w w3 := hx2.own hg3 (fun k hk => by injection hk; omega)
    repeat' (first | (apply G_on; exact rfl; (apply G1_assign; exact rfl; exact rfl)) | apply G_nil | apply Post_next | apply W_ret)
    refine Post_ret Tryz.results77 ⟨_, _, _, rfl, rfl, run_loadVar_box T.a140 (by assumption) rfl, _, _, rfl, rfl, rfl⟩ ?_
    exact ⟨rfl, (by repeat first | assumption | exact Ext.rfl' | apply Ext.drew | apply Ext.alloc | refine Ext.trans ?_ (by assumption))⟩
theorem contains_spec {a k : Nat} {c : UInt8} {w : World} (hA : Blk w.heap a 140 (setC k)) :
    Ctr Tryz.prog 78 [.pointer (some (adr (bx a) 0)), .int .u8 (c.toNat : Int)] w (fun v w' => v = .bool ((decide (c.toNat = 13) && decide (0 < k)) || (decide (c.toNat = 10) && decide (1 < k))) ∧ Ext w w') := by
  have hlt := c.toNat_lt
  have hcell : (setC k)[c.toNat]? = some (.bool ((decide (c.toNat = 13) && decide (0 < k)) || (decide (c.toNat = 10) && decide (1 < k)))) := by
    unfold setC
    rw [List.getElem?_map, List.getElem?_range (by omega)]
    rfl
  refine Ctr_of Tryz.func78 Tryz.ntmps78 rfl rfl rfl ?_
  repeat' (first | (apply G_on; exact rfl; first | ((first | apply G1_assign | apply G1_move | apply G1_nilCheck); exact rfl; exact rfl) | (apply G1_loadB; exact T.p4; exact rfl; exact hA; (simp only [Nat.zero_add, Nat.mul_one, Int.toNat_natCast]; exact hcell); exact rfl) | (apply G1_indexArr; exact T.ar140; exact rfl; exact rfl; omega; omega; exact rfl)) | apply G_nil | apply Post_next | apply W_seq | apply W_region | apply W_ret)
  refine Post_ret Tryz.results78 ⟨_, _, rfl, rfl, rfl⟩ ?_
  exact ⟨rfl, (by repeat first | assumption | exact Ext.rfl' | apply Ext.drew | apply Ext.alloc | refine Ext.trans ?_ (by assumption))⟩
end Go.Proofs.YtipbakiecocioaaGreatDoor

/- The order of decimal forms, in plain Lean. -/
namespace Go.Proofs.YtipbakiecocioaaGreatDoor
open Go.V
attribute [local irreducible] Blk Own hcell IntT SliceT PlainT AggT SizeT StrT FieldT ZeroT EqT ArrT
theorem less_app : ∀ (xs ys : List UInt8) (c d : UInt8), xs.length = ys.length → Op.bytesLess (xs ++ [c]) (ys ++ [d]) = (Op.bytesLess xs ys || (decide (xs = ys) && decide (c < d)))
  | [], [], c, d, _ => by simp [Op.bytesLess]
  | x :: xs, y :: ys, c, d, h => by
    have ih := less_app xs ys c d (by simpa using h)
    simp only [List.cons_append, Op.bytesLess, ih]
    by_cases hlt : x < y
    · simp [hlt]
    · by_cases hgt : y < x
      · have hne : x ≠ y := by intro he; subst he; exact absurd hgt hlt
        have hb : (x == y) = false := by simp [hne]
        simp [hlt, hne, hb]
      · have he : x = y := UInt8.le_antisymm (UInt8.not_lt.1 hgt) (UInt8.not_lt.1 hlt)
        subst he
        simp
  | [], y :: ys, c, d, h => by cases h
  | x :: xs, [], c, d, h => by cases h
theorem digit_lt {a b : Nat} (ha : a < 10) (hb : b < 10) : (UInt8.ofNat (48 + a) < UInt8.ofNat (48 + b)) ↔ a < b := by
  rw [UInt8.lt_iff_toNat_lt]
  rw [UInt8.toNat_ofNat', UInt8.toNat_ofNat']
  omega
theorem dec_ge (u : Nat) : ∀ c ∈ Lib.decDigits u, 48 ≤ c.toNat := by
  induction u using Nat.strongRecOn with
  | _ u ih =>
    rw [Lib.decDigits]
    split
    · intro c hc
      simp only [List.mem_singleton] at hc
      rw [hc, UInt8.toNat_ofNat']
      omega
    · intro c hc
      rcases List.mem_append.1 hc with hc | hc
      · exact ih (u / 10) (by omega) c hc
      · simp only [List.mem_singleton] at hc
        rw [hc, UInt8.toNat_ofNat']
        omega
theorem dec_less (u : Nat) : ∀ v, Lib.nDigits u = Lib.nDigits v → Op.bytesLess (Lib.decDigits u) (Lib.decDigits v) = decide (u < v) ∧ (Lib.decDigits u = Lib.decDigits v ↔ u = v) := by
  induction u using Nat.strongRecOn with
  | _ u ih =>
    intro v hn
    by_cases hu : u < 10
    · have hv : v < 10 := by
        apply Decidable.byContradiction; intro hv
        rw [Lib.nDigits_small hu, Lib.nDigits_big hv] at hn
        have := Lib.nDigits_pos (v / 10)
        omega
      have hd := digit_lt hu hv
      have hd2 := digit_lt hv hu
      rw [Lib.decDigits_one hu, Lib.decDigits_one hv]
      refine ⟨?_, ?_⟩
      · rw [show ([UInt8.ofNat (48 + u)] : List UInt8) = [] ++ [UInt8.ofNat (48 + u)] from rfl, show ([UInt8.ofNat (48 + v)] : List UInt8) = [] ++ [UInt8.ofNat (48 + v)] from rfl, less_app [] [] _ _ rfl]
        rw [show decide (UInt8.ofNat (48 + u) < UInt8.ofNat (48 + v)) = decide (u < v) from decide_eq_decide.2 hd]
        simp [Op.bytesLess]
      · constructor
        · intro he
          injection he with he _
          rw [he] at hd hd2
          have h1 : ¬ u < v := fun h => UInt8.lt_irrefl _ (hd.2 h)
          have h2 : ¬ v < u := fun h => UInt8.lt_irrefl _ (hd2.2 h)
          omega
        · intro he; rw [he]
    · have hv : ¬ v < 10 := by
        intro hv
        rw [Lib.nDigits_small hv, Lib.nDigits_big hu] at hn
        have := Lib.nDigits_pos (u / 10)
        omega
      rw [Lib.nDigits_big hu, Lib.nDigits_big hv] at hn
      obtain ⟨ih1, ih2⟩ := ih (u / 10) (by omega) (v / 10) (by omega)
      have hlen : (Lib.decDigits (u / 10)).length = (Lib.decDigits (v / 10)).length := by rw [Lib.decDigits_length, Lib.decDigits_length]; omega
      have hd := digit_lt (a := u % 10) (b := v % 10) (by omega) (by omega)
      have hd2 := digit_lt (a := v % 10) (b := u % 10) (by omega) (by omega)
      rw [Lib.decDigits, dif_neg hu, Lib.decDigits.eq_1 v, dif_neg hv]
      refine ⟨?_, ?_⟩
      · rw [less_app _ _ _ _ hlen, ih1]
        rw [show decide (UInt8.ofNat (48 + u % 10) < UInt8.ofNat (48 + v % 10)) = decide (u % 10 < v % 10) from decide_eq_decide.2 hd,
          show decide (Lib.decDigits (u / 10) = Lib.decDigits (v / 10)) = decide (u / 10 = v / 10) from decide_eq_decide.2 ih2, ← Bool.decide_and, ← Bool.decide_or]
        apply decide_eq_decide.2
        omega
      · constructor
        · intro he
          obtain ⟨e1, e2⟩ := List.append_inj he hlen
          injection e2 with e2 _
          rw [e2] at hd hd2
          have h1 : ¬ u % 10 < v % 10 := fun h => UInt8.lt_irrefl _ (hd.2 h)
          have h2 : ¬ v % 10 < u % 10 := fun h => UInt8.lt_irrefl _ (hd2.2 h)
          have := ih2.1 e1
          omega
        · intro he; rw [he]
theorem dec_inj {u v : Nat} (he : Lib.decDigits u = Lib.decDigits v) : u = v :=
  (dec_less u v (by rw [← Lib.decDigits_length, ← Lib.decDigits_length, he])).2.1 he
theorem dec_ne (u : Nat) (xs : List UInt8) : Lib.decDigits u ≠ 45 :: xs := by
  intro he
  have := dec_ge u 45 (by rw [he]; simp)
  simp at this
theorem itoa_inj {a b : Int} (he : Lib.itoa a = Lib.itoa b) : a = b := by
  unfold Lib.itoa at he
  split at he <;> split at he
  · injection he with _ he
    have := dec_inj he
    omega
  · exact absurd he.symm (dec_ne _ _)
  · exact absurd he (dec_ne _ _)
  · have := dec_inj he
    omega
theorem itoaB_inj {a b : Int} : itoaB a = itoaB b ↔ a = b := by
  constructor
  · intro he
    have := congrArg (fun x : ByteArray => x.data.toList) he
    exact itoa_inj (by simpa [itoaB] using this)
  · intro he; rw [he]
theorem itoaB_less {a b : Int} (ha : 0 ≤ a) (hb : 0 ≤ b) (hl : (itoaB a).size = (itoaB b).size) : blt (itoaB a) (itoaB b) = decide (a < b) := by
  have hl' : (Lib.itoa a).length = (Lib.itoa b).length := by
    have e : ∀ n, (itoaB n).size = (Lib.itoa n).length := fun n => by
      show (Lib.itoa n).toArray.size = _
      simp
    rw [e, e] at hl; exact hl
  show Op.bytesLess (Lib.itoa a).toArray.toList (Lib.itoa b).toArray.toList = _
  unfold Lib.itoa at hl' ⊢
  rw [if_neg (by omega), if_neg (by omega)] at hl' ⊢
  rw [Lib.decDigits_length, Lib.decDigits_length] at hl'
  show Op.bytesLess (Lib.decDigits _) (Lib.decDigits _) = _
  rw [(dec_less _ _ hl').1]
  apply decide_eq_decide.2
  omega
end Go.Proofs.YtipbakiecocioaaGreatDoor

/- Replies: how they are written; unlike ones are written unlike; in plain Lean. -/
namespace Go.Proofs.YtipbakiecocioaaGreatDoor
open Go.V
attribute [local irreducible] Blk Own hcell IntT SliceT PlainT AggT SizeT StrT FieldT ZeroT EqT ArrT
def crlf : List UInt8 := [13, 10]
def wHead (t : Rep) : List UInt8 :=
  if t.kind = 0 then 43 :: (t.s.data.toList ++ crlf)
  else if t.kind = 1 then 45 :: (t.s.data.toList ++ crlf)
  else if t.kind = 2 then 58 :: (Lib.itoa t.n ++ crlf)
  else if t.kind = 3 then 36 :: (Lib.itoa t.s.size ++ crlf ++ (t.s.data.toList ++ crlf))
  else if t.kind = 4 then 36 :: ([45, 49] ++ crlf)
  else 42 :: (Lib.itoa t.l.length ++ crlf)
/-- what is written of a reply, so deep -/
def wT : Nat → Rep → List UInt8
  | 0, t => wHead t
  | d + 1, t => wHead t ++ (if t.kind = 5 then t.l.flatMap (wT d) else [])
theorem line_inj : ∀ {a c r1 r2 : List UInt8}, (∀ b ∈ a, b ≠ 13) → (∀ b ∈ c, b ≠ 13) → a ++ 13 :: r1 = c ++ 13 :: r2 → a = c ∧ r1 = r2
  | [], [], r1, r2, _, _, h => by simpa using h
  | [], y :: c, r1, r2, _, hc, h => by
    injection h with h _
    exact absurd h.symm (hc y (by simp))
  | x :: a, [], r1, r2, ha, _, h => by
    injection h with h _
    exact absurd h (ha x (by simp))
  | x :: a, y :: c, r1, r2, ha, hc, h => by
    injection h with h1 h2
    obtain ⟨e1, e2⟩ := line_inj (fun b hb => ha b (List.mem_cons_of_mem _ hb)) (fun b hb => hc b (List.mem_cons_of_mem _ hb)) h2
    exact ⟨by rw [h1, e1], e2⟩
theorem itoa_no13 (n : Int) : ∀ b ∈ Lib.itoa n, b ≠ 13 := by
  intro b hb
  unfold Lib.itoa at hb
  split at hb
  · rcases List.mem_cons.1 hb with rfl | hb
    · decide
    · intro e; subst e
      have := dec_ge _ _ hb
      simp at this
  · intro e; subst e
    have := dec_ge _ _ hb
    simp at this
theorem nobr_no13 {s : ByteArray} (h : nobr s = true) : ∀ b ∈ s.data.toList, b ≠ 13 := by
  intro b hb
  have := List.all_eq_true.1 h b hb
  simp at this
  exact this.1
theorem ba_list_ext {a b : ByteArray} (h : a.data.toList = b.data.toList) : a = b := by
  cases a with | mk a => cases b with | mk b =>
    congr 1
    exact Array.toList_inj.1 h
structure Leaf (t : Rep) : Prop where
  lo : 0 ≤ t.kind
  hi : t.kind ≤ 5
  list : t.kind ≠ 5 → t.l = []
  num : t.kind ≠ 2 → t.n = 0
  text : t.kind = 2 ∨ t.kind = 4 ∨ t.kind = 5 → t.s = ⟨#[]⟩
  line : t.kind = 0 ∨ t.kind = 1 → nobr t.s = true
theorem leaf_of {t : Rep} (h : leafOk t = true) : Leaf t := by
  unfold leafOk at h
  simp only [Bool.and_eq_true, Bool.or_eq_true, decide_eq_true_eq, List.isEmpty_iff] at h
  obtain ⟨⟨⟨⟨⟨h1, h2⟩, h3⟩, h4⟩, h5⟩, h6⟩ := h
  refine ⟨h1, h2, fun e => h3.resolve_left e, fun e => h4.resolve_left e, fun e => ?_, fun e => ?_⟩
  · rcases h5 with ((h5 | h5) | h5) | h5
    · omega
    · omega
    · omega
    · exact h5
  · rcases h6 with h6 | h6
    · omega
    · exact h6
theorem of_leaf {t : Rep} (h : Leaf t) : leafOk t = true := by
  unfold leafOk
  simp only [Bool.and_eq_true, Bool.or_eq_true, decide_eq_true_eq, List.isEmpty_iff]
  refine ⟨⟨⟨⟨⟨h.lo, h.hi⟩, ?_⟩, ?_⟩, ?_⟩, ?_⟩
  · by_cases e : t.kind = 5
    · exact .inl e
    · exact .inr (h.list e)
  · by_cases e : t.kind = 2
    · exact .inl e
    · exact .inr (h.num e)
  · have h1 := h.lo
    have h2 := h.hi
    by_cases e : t.kind = 2 ∨ t.kind = 4 ∨ t.kind = 5
    · exact .inr (h.text e)
    · exact .inl (by omega)
  · have h1 := h.lo
    by_cases e : t.kind = 0 ∨ t.kind = 1
    · exact .inr (h.line e)
    · exact .inl (by omega)
theorem right_leaf {d : Nat} {t : Rep} (h : rightT d t = true) : Leaf t := by
  cases d <;> simp only [rightT, Bool.and_eq_true] at h <;> exact leaf_of h.1
/-- the head of a reply tells all but its list, and how long that is -/
theorem head_inj {t u : Rep} (ht : Leaf t) (hu : Leaf u) {r1 r2 : List UInt8} (h : wHead t ++ r1 = wHead u ++ r2) : t.kind = u.kind ∧ t.s = u.s ∧ t.n = u.n ∧ t.l.length = u.l.length ∧ r1 = r2 := by
  have t1 := ht.lo
  have t2 := ht.hi
  have u1 := hu.lo
  have u2 := hu.hi
  have lines : ∀ {m1 m2 : UInt8} {a c x y : List UInt8}, (m1 :: (a ++ crlf)) ++ x = (m2 :: (c ++ crlf)) ++ y → (∀ b ∈ a, b ≠ 13) → (∀ b ∈ c, b ≠ 13) → m1 = m2 ∧ a = c ∧ x = y := by
    intro m1 m2 a c x y h ha hc
    simp only [crlf, List.cons_append, List.append_assoc, List.nil_append] at h
    injection h with h1 h2
    obtain ⟨e1, e2⟩ := line_inj ha hc h2
    injection e2 with _ e2
    exact ⟨h1, e1, e2⟩
  have cases5 : ∀ k : Int, 0 ≤ k → k ≤ 5 → k = 0 ∨ k = 1 ∨ k = 2 ∨ k = 3 ∨ k = 4 ∨ k = 5 := by intro k h1 h2; omega
  -- the mark, the line, and what is behind it
  have form : ∀ v : Rep, Leaf v → ∃ (m : UInt8) (a : List UInt8) (z : List UInt8), wHead v = (m :: (a ++ crlf)) ++ z ∧ (∀ b ∈ a, b ≠ 13) ∧
      ((v.kind = 0 ∧ m = 43 ∧ a = v.s.data.toList ∧ z = []) ∨ (v.kind = 1 ∧ m = 45 ∧ a = v.s.data.toList ∧ z = []) ∨ (v.kind = 2 ∧ m = 58 ∧ a = Lib.itoa v.n ∧ z = []) ∨
       (v.kind = 3 ∧ m = 36 ∧ a = Lib.itoa v.s.size ∧ z = v.s.data.toList ++ crlf) ∨ (v.kind = 4 ∧ m = 36 ∧ a = Lib.itoa (-1) ∧ z = []) ∨ (v.kind = 5 ∧ m = 42 ∧ a = Lib.itoa v.l.length ∧ z = [])) := by
    intro v hv
    rcases cases5 v.kind hv.lo hv.hi with h | h | h | h | h | h
    · exact ⟨43, v.s.data.toList, [], by simp [wHead, h], nobr_no13 (hv.line (.inl h)), .inl ⟨h, rfl, rfl, rfl⟩⟩
    · exact ⟨45, v.s.data.toList, [], by simp [wHead, h], nobr_no13 (hv.line (.inr h)), .inr (.inl ⟨h, rfl, rfl, rfl⟩)⟩
    · exact ⟨58, Lib.itoa v.n, [], by simp [wHead, h], itoa_no13 _, .inr (.inr (.inl ⟨h, rfl, rfl, rfl⟩))⟩
    · exact ⟨36, Lib.itoa v.s.size, v.s.data.toList ++ crlf, by simp [wHead, h], itoa_no13 _, .inr (.inr (.inr (.inl ⟨h, rfl, rfl, rfl⟩)))⟩
    · exact ⟨36, Lib.itoa (-1), [], (by have e : Lib.itoa (-1) = [45, 49] := (by decide +kernel); rw [e]; simp [wHead, h]), itoa_no13 _, .inr (.inr (.inr (.inr (.inl ⟨h, rfl, rfl, rfl⟩))))⟩
    · exact ⟨42, Lib.itoa v.l.length, [], by simp [wHead, h], itoa_no13 _, .inr (.inr (.inr (.inr (.inr ⟨h, rfl, rfl, rfl⟩))))⟩
  obtain ⟨m1, a, z1, e1, n1, c1⟩ := form t ht
  obtain ⟨m2, c, z2, e2, n2, c2⟩ := form u hu
  rw [e1, e2, List.append_assoc, List.append_assoc] at h
  obtain ⟨hm, hac, hz⟩ := lines h n1 n2
  have fin : ∀ {k : Int}, t.kind = k → u.kind = k → t.s = u.s → t.n = u.n → t.l.length = u.l.length → z1 ++ r1 = z2 ++ r2 → (z1 = z2) → t.kind = u.kind ∧ t.s = u.s ∧ t.n = u.n ∧ t.l.length = u.l.length ∧ r1 = r2 := by
    intro k hk1 hk2 hs hn hl hzr hzz
    subst hzz
    exact ⟨by rw [hk1, hk2], hs, hn, hl, List.append_cancel_left hzr⟩
  rcases c1 with ⟨k1, rfl, rfl, rfl⟩ | ⟨k1, rfl, rfl, rfl⟩ | ⟨k1, rfl, rfl, rfl⟩ | ⟨k1, rfl, rfl, rfl⟩ | ⟨k1, rfl, rfl, rfl⟩ | ⟨k1, rfl, rfl, rfl⟩ <;>
    rcases c2 with ⟨k2, e3, rfl, rfl⟩ | ⟨k2, e3, rfl, rfl⟩ | ⟨k2, e3, rfl, rfl⟩ | ⟨k2, e3, rfl, rfl⟩ | ⟨k2, e3, rfl, rfl⟩ | ⟨k2, e3, rfl, rfl⟩ <;>
    rw [e3] at hm <;> try (exact absurd hm (by decide))
  · exact fin k1 k2 (ba_list_ext hac) (by rw [ht.num (by omega), hu.num (by omega)]) (by rw [ht.list (by omega), hu.list (by omega)]) hz rfl
  · exact fin k1 k2 (ba_list_ext hac) (by rw [ht.num (by omega), hu.num (by omega)]) (by rw [ht.list (by omega), hu.list (by omega)]) hz rfl
  · exact fin k1 k2 (by rw [ht.text (.inl k1), hu.text (.inl k2)]) (itoa_inj hac) (by rw [ht.list (by omega), hu.list (by omega)]) hz rfl
  · have hsz := itoa_inj hac
    simp only [List.append_assoc] at hz
    have hl : t.s.data.toList.length = u.s.data.toList.length := by rw [← size_list, ← size_list]; omega
    obtain ⟨hs, hr⟩ := List.append_inj hz hl
    exact fin k1 k2 (ba_list_ext hs) (by rw [ht.num (by omega), hu.num (by omega)]) (by rw [ht.list (by omega), hu.list (by omega)]) (by rw [hs]; rw [List.append_assoc, List.append_assoc, hr]) (by rw [hs])
  · have := itoa_inj hac; omega
  · have := itoa_inj hac; omega
  · exact fin k1 k2 (by rw [ht.text (by omega), hu.text (by omega)]) (by rw [ht.num (by omega), hu.num (by omega)]) (by rw [ht.list (by omega), hu.list (by omega)]) hz rfl
  · have := itoa_inj hac
    exact fin k1 k2 (by rw [ht.text (by omega), hu.text (by omega)]) (by rw [ht.num (by omega), hu.num (by omega)]) (by omega) hz rfl
theorem list_inj {f : Rep → List UInt8} {ok : Rep → Bool} (hf : ∀ t u r1 r2, ok t = true → ok u = true → f t ++ r1 = f u ++ r2 → t = u ∧ r1 = r2) : ∀ (l m : List Rep) (r1 r2 : List UInt8), l.length = m.length → l.all ok = true → m.all ok = true → l.flatMap f ++ r1 = m.flatMap f ++ r2 → l = m ∧ r1 = r2
  | [], [], r1, r2, _, _, _, h => ⟨rfl, by simpa using h⟩
  | [], _ :: _, _, _, hl, _, _, _ => by simp at hl
  | _ :: _, [], _, _, hl, _, _, _ => by simp at hl
  | x :: l, y :: m, r1, r2, hl, h1, h2, h => by
    simp only [List.all_cons, Bool.and_eq_true] at h1 h2
    rw [List.flatMap_cons, List.flatMap_cons, List.append_assoc, List.append_assoc] at h
    obtain ⟨e, h'⟩ := hf x y _ _ h1.1 h2.1 h
    obtain ⟨e2, e3⟩ := list_inj hf l m r1 r2 (by simpa using hl) h1.2 h2.2 h'
    exact ⟨by rw [e, e2], e3⟩
theorem w_inj : ∀ (d : Nat) (t u : Rep) (r1 r2 : List UInt8), rightT d t = true → rightT d u = true → wT d t ++ r1 = wT d u ++ r2 → t = u ∧ r1 = r2
  | 0, t, u, r1, r2, ht, hu, h => by
    obtain ⟨h1, h2, h3, h4, h5⟩ := head_inj (right_leaf ht) (right_leaf hu) h
    simp only [rightT, Bool.and_eq_true, decide_eq_true_eq] at ht hu
    exact ⟨Rep.ext' h1 h2 h3 (by rw [(leaf_of ht.1).list ht.2, (leaf_of hu.1).list hu.2]), h5⟩
  | d + 1, t, u, r1, r2, ht, hu, h => by
    unfold wT at h
    rw [List.append_assoc, List.append_assoc] at h
    obtain ⟨h1, h2, h3, h4, h5⟩ := head_inj (right_leaf ht) (right_leaf hu) h
    have lt := right_leaf ht
    have lu := right_leaf hu
    simp only [rightT, Bool.and_eq_true] at ht hu
    by_cases hk : t.kind = 5
    · rw [if_pos hk, if_pos (by rw [← h1]; exact hk)] at h5
      obtain ⟨e1, e2⟩ := list_inj (fun t u r1 r2 => w_inj d t u r1 r2) t.l u.l r1 r2 h4 ht.2 hu.2 h5
      exact ⟨Rep.ext' h1 h2 h3 e1, e2⟩
    · rw [if_neg hk, if_neg (by rw [← h1]; exact hk)] at h5
      exact ⟨Rep.ext' h1 h2 h3 (by rw [lt.list hk, lu.list (by rw [← h1]; exact hk)]), by simpa using h5⟩
end Go.Proofs.YtipbakiecocioaaGreatDoor

/- Numbers that fit, sums, spans: in plain Lean. -/
namespace Go.V
def lo64 : Int := -9223372036854775808
def fit64 (n : Int) : Prop := -9223372036854775808 ≤ n ∧ n ≤ 9223372036854775807
instance (n : Int) : Decidable (fit64 n) := inferInstanceAs (Decidable (_ ∧ _))
/-- a sum, if it fits -/
def sum2 (a b : Int) : Int × Bool := if fit64 (a + b) then (a + b, true) else (0, false)
def sub2 (a b : Int) : Int × Bool := if fit64 (a - b) then (a - b, true) else (0, false)
def sums : Int → List Int → Int × Bool
  | a, [] => (a, true)
  | a, b :: bs => if fit64 (a + b) then sums (a + b) bs else (0, false)
theorem sums_one (a b : Int) : sums a [b] = sum2 a b := rfl
/-- what Span answers -/
def spanF (start stop n : Int) : Int × Int :=
  if (if start < 0 then max (start + n) 0 else start) > min (if stop < 0 then stop + n else stop) (n - 1) then (0, 0) else ((if start < 0 then max (start + n) 0 else start), min (if stop < 0 then stop + n else stop) (n - 1) + 1)
end Go.V

/- Decimal forms read back, in plain Lean. -/
namespace Go.Proofs.YtipbakiecocioaaGreatDoor
open Go.V
attribute [local irreducible] Blk Own hcell IntT SliceT PlainT AggT SizeT StrT FieldT ZeroT EqT ArrT
def valN (acc : Nat) (l : List UInt8) : Nat := l.foldl (fun a c => a * 10 + (c.toNat - 48)) acc
theorem valN_cons (acc : Nat) (c : UInt8) (l : List UInt8) : valN acc (c :: l) = valN (acc * 10 + (c.toNat - 48)) l := by unfold valN; rw [List.foldl_cons]
theorem valN_snoc (acc : Nat) (l : List UInt8) (c : UInt8) : valN acc (l ++ [c]) = valN acc l * 10 + (c.toNat - 48) := by unfold valN; rw [List.foldl_append, List.foldl_cons, List.foldl_nil]
theorem valN_ge : ∀ (l : List UInt8) (acc : Nat), acc ≤ valN acc l
  | [], acc => Nat.le_refl _
  | c :: l, acc => by rw [valN_cons]; have := valN_ge l (acc * 10 + (c.toNat - 48)); omega
theorem parseM_ok : ∀ (l : List UInt8) (acc : Nat), (∀ c ∈ l, 48 ≤ c.toNat ∧ c.toNat ≤ 57) → valN acc l ≤ 18446744073709551615 → Lib.parseUintM (2 ^ 64 - 1) acc l = .ok (valN acc l)
  | [], acc, _, _ => rfl
  | c :: l, acc, hd, hv => by
    have hc := hd c (by simp)
    have hg := valN_ge l (acc * 10 + (c.toNat - 48))
    rw [valN_cons] at hv ⊢
    rw [Lib.parseUintM, if_pos hc, if_neg (by omega), if_neg (by omega), parseM_ok l _ (fun d h => hd d (by simp [h])) hv]
theorem dec_le (u : Nat) : ∀ c ∈ Lib.decDigits u, c.toNat ≤ 57 := by
  induction u using Nat.strongRecOn with
  | _ u ih =>
    rw [Lib.decDigits]
    split
    · intro c hc
      simp only [List.mem_singleton] at hc
      rw [hc, UInt8.toNat_ofNat']
      omega
    · intro c hc
      rcases List.mem_append.1 hc with hc | hc
      · exact ih (u / 10) (by omega) c hc
      · simp only [List.mem_singleton] at hc
        rw [hc, UInt8.toNat_ofNat']
        omega
theorem val_dec (u : Nat) : valN 0 (Lib.decDigits u) = u := by
  induction u using Nat.strongRecOn with
  | _ u ih =>
    rw [Lib.decDigits]
    split
    · show 0 * 10 + ((UInt8.ofNat (48 + u)).toNat - 48) = u
      rw [UInt8.toNat_ofNat']
      omega
    · rw [valN_snoc, ih (u / 10) (by omega), UInt8.toNat_ofNat']
      omega
theorem dec_cons (u : Nat) : ∃ c l, Lib.decDigits u = c :: l ∧ 48 ≤ c.toNat := by
  cases h : Lib.decDigits u with
  | nil =>
    have := Lib.decDigits_length u
    rw [h] at this
    have h2 := Lib.nDigits_pos u
    simp at this; omega
  | cons c l => exact ⟨c, l, rfl, dec_ge u c (by rw [h]; simp)⟩
theorem uint_dec {u : Nat} (h : u ≤ 18446744073709551615) : Lib.parseUintB 64 (Lib.decDigits u) = .ok u := by
  obtain ⟨c, l, hc, _⟩ := dec_cons u
  unfold Lib.parseUintB
  rw [if_neg (by rw [hc]; simp), parseM_ok _ 0 (fun c hc => ⟨dec_ge u c hc, dec_le u c hc⟩) (by rw [val_dec]; exact h), val_dec]
theorem parse_itoa {n : Int} (h : fit64 n) : Lib.parseIntB 64 (Lib.itoa n) = .ok n := by
  unfold fit64 at h
  unfold Lib.itoa
  by_cases hn : n < 0
  · rw [if_pos hn]
    unfold Lib.parseIntB
    simp only
    rw [if_pos (.inr (by decide)), uint_dec (by omega)]
    simp only
    have h45 : (45 : UInt8).toNat = 45 := by decide
    rw [if_neg (by rw [h45]; simp), if_neg (by omega), if_pos h45]
    congr 1; omega
  · rw [if_neg hn]
    obtain ⟨c, l, hc, hc48⟩ := dec_cons n.toNat
    have hu := uint_dec (u := n.toNat) (by omega)
    rw [hc] at hu ⊢
    unfold Lib.parseIntB
    simp only
    rw [if_neg (by omega), hu]
    simp only
    rw [if_neg (by omega), if_neg (by omega), if_neg (by omega)]
    congr 1; omega
theorem parse_fit {l : List UInt8} {v : Int} (h : Lib.parseIntB 64 l = .ok v) : fit64 v := by
  unfold Lib.parseIntB at h
  cases l with
  | nil => cases h
  | cons c r =>
    simp only at h
    generalize Lib.parseUintB 64 _ = q at h
    rcases q with u | _ | _
    · simp only at h
      split at h
      · cases h
      · split at h
        · cases h
        · injection h with h
          unfold fit64
          split at h <;> omega
    · cases h
    · cases h
theorem nDigits_le : ∀ (k u : Nat), u < 10 ^ (k + 1) → Lib.nDigits u ≤ k + 1
  | 0, u, h => by rw [Lib.nDigits_small (by simpa using h)]; exact Nat.le_refl _
  | k + 1, u, h => by
    by_cases h10 : u < 10
    · rw [Lib.nDigits_small h10]; omega
    · rw [Lib.nDigits_big h10]
      have := nDigits_le k (u / 10) (by rw [Nat.pow_succ] at h; omega)
      omega
theorem itoa_size {n : Int} (h : fit64 n) : (itoaB n).size ≤ 20 := by
  unfold fit64 at h
  have e : (itoaB n).size = (Lib.itoa n).length := by
    show (Lib.itoa n).toArray.size = _
    simp
  rw [e]
  unfold Lib.itoa
  split
  · have := nDigits_le 18 n.natAbs (by omega)
    rw [List.length_cons, Lib.decDigits_length]; omega
  · have := nDigits_le 18 n.toNat (by omega)
    rw [Lib.decDigits_length]; omega
/-- the number of which s is the form -/
def IsNum (s : ByteArray) (n : Int) : Prop := fit64 n ∧ itoaB n = s
theorem itoaB_list (n : Int) : (itoaB n).data.toList = Lib.itoa n := by show (Lib.itoa n).toArray.toList = _; simp
end Go.Proofs.YtipbakiecocioaaGreatDoor

/- Replies read out of bytes; what is written of a right one is read as it; in plain Lean. -/
namespace Go.Proofs.YtipbakiecocioaaGreatDoor
open Go.V
attribute [local irreducible] Blk Own hcell IntT SliceT PlainT AggT SizeT StrT FieldT ZeroT EqT ArrT
/-- the place of the first end-of-line sign; the length, where there is none -/
def brAt : List UInt8 → Nat
  | [] => 0
  | b :: l => if isBr b = true then 0 else brAt l + 1
theorem brAt_le : ∀ l : List UInt8, brAt l ≤ l.length
  | [] => Nat.le_refl _
  | b :: l => by
    unfold brAt
    have := brAt_le l
    split
    · omega
    · simp only [List.length_cons]; omega
theorem brAt_app : ∀ (a : List UInt8) (c : UInt8) (r : List UInt8), (∀ b ∈ a, isBr b = false) → isBr c = true → brAt (a ++ c :: r) = a.length
  | [], c, r, _, hc => by simp [brAt, hc]
  | b :: a, c, r, ha, hc => by
    have h1 := ha b (by simp)
    have h2 := brAt_app a c r (fun x hx => ha x (List.mem_cons_of_mem _ hx)) hc
    simp only [List.cons_append, brAt, h1, h2, List.length_cons]
    simp
theorem brAt_no : ∀ (l : List UInt8) (k : Nat), k ≤ brAt l → ∀ b ∈ l.take k, isBr b = false
  | [], k, _, b, hb => by simp at hb
  | c :: l, 0, _, b, hb => by simp at hb
  | c :: l, k + 1, h, b, hb => by
    unfold brAt at h
    split at h
    · omega
    · rename_i hc
      rw [List.take_succ_cons] at hb
      rcases List.mem_cons.1 hb with rfl | hb
      · simpa using hc
      · exact brAt_no l k (by omega) b hb
theorem brAt_is : ∀ (l : List UInt8), brAt l < l.length → ∃ c, l[brAt l]? = some c ∧ isBr c = true
  | [], h => by simp at h
  | c :: l, h => by
    unfold brAt at h ⊢
    split
    · rename_i hc; exact ⟨c, rfl, hc⟩
    · rename_i hc
      rw [if_neg hc, List.length_cons] at h
      obtain ⟨x, h1, h2⟩ := brAt_is l (by omega)
      exact ⟨x, by simpa using h1, h2⟩
open Classical in
noncomputable def numOf (s : List UInt8) : Option Int := if h : ∃ n, IsNum (mkStr s) n then some h.choose else none
theorem isNum_inj {s : ByteArray} {m n : Int} (h : IsNum s m) (k : IsNum s n) : m = n := by
  have e := h.2.trans k.2.symm
  have e2 := congrArg (fun b : ByteArray => b.data.toList) e
  simp only [itoaB_list] at e2
  exact itoa_inj e2
theorem numOf_some {s : List UInt8} {n : Int} (h : IsNum (mkStr s) n) : numOf s = some n := by
  have hx : ∃ n, IsNum (mkStr s) n := ⟨n, h⟩
  unfold numOf
  rw [dif_pos hx]
  exact congrArg some (isNum_inj hx.choose_spec h)
theorem numOf_none {s : List UInt8} (h : ∀ n, ¬ IsNum (mkStr s) n) : numOf s = none := by
  unfold numOf
  rw [dif_neg (fun ⟨n, hn⟩ => h n hn)]
inductive Hd where
  | none
  | leaf (t : Rep) (k : Nat)
  | list (n k : Nat)
/-- what a line with the mark m and the text s says; r is behind it, k the length of it with its end -/
noncomputable def rdLine (m : UInt8) (s r : List UInt8) (k : Nat) : Hd :=
  if m = 43 then .leaf (.mk 0 (mkStr s) 0 []) k
  else if m = 45 then .leaf (.mk 1 (mkStr s) 0 []) k
  else match numOf s with
    | none => .none
    | some n =>
      if m = 58 then .leaf (.mk 2 ⟨#[]⟩ n []) k
      else if m = 36 then
        if n = -1 then .leaf (.mk 4 ⟨#[]⟩ 0 []) k
        else if 0 ≤ n ∧ n ≤ (r.length : Int) ∧ (r.drop n.toNat).take 2 = [13, 10] then .leaf (.mk 3 (mkStr (r.take n.toNat)) 0 []) (k + n.toNat + 2)
        else .none
      else if m = 42 ∧ 0 ≤ n then .list n.toNat k
      else .none
noncomputable def rdHead (bs : List UInt8) : Hd :=
  match bs.take (brAt bs) with
  | [] => .none
  | m :: s => if (bs.drop (brAt bs)).take 2 = [13, 10] then rdLine m s (bs.drop (brAt bs + 2)) (brAt bs + 2) else .none
def rdL (f : List UInt8 → Option (Rep × Nat)) : Nat → List UInt8 → Option (List Rep × Nat)
  | 0, _ => some ([], 0)
  | n + 1, bs => match f bs with
    | none => none
    | some (t, k) => match rdL f n (bs.drop k) with
      | none => none
      | some (l, j) => some (t :: l, k + j)
/-- the reply with which bytes begin, with at most so many arrays within one another, and its length -/
noncomputable def rdT : Nat → List UInt8 → Option (Rep × Nat)
  | 0, bs => match rdHead bs with
    | .leaf t k => some (t, k)
    | _ => none
  | d + 1, bs => match rdHead bs with
    | .leaf t k => some (t, k)
    | .list n k => match rdL (rdT d) n (bs.drop k) with
      | some (l, j) => some (.mk 5 ⟨#[]⟩ 0 l, k + j)
      | none => none
    | .none => none
theorem rdT_leaf {d k : Nat} {bs : List UInt8} {t : Rep} (h : rdHead bs = .leaf t k) : rdT d bs = some (t, k) := by
  cases d <;> simp [rdT, h]
theorem rdT_none {d : Nat} {bs : List UInt8} (h : rdHead bs = .none) : rdT d bs = none := by
  cases d <;> simp [rdT, h]
theorem rdT_list0 {n k : Nat} {bs : List UInt8} (h : rdHead bs = .list n k) : rdT 0 bs = none := by
  simp [rdT, h]
theorem rdT_list {d n k : Nat} {bs : List UInt8} (h : rdHead bs = .list n k) : rdT (d + 1) bs = (rdL (rdT d) n (bs.drop k)).map (fun x => (.mk 5 ⟨#[]⟩ 0 x.1, k + x.2)) := by
  simp only [rdT, h]
  cases rdL (rdT d) n (bs.drop k) with
  | none => rfl
  | some x => rfl
theorem rdHead_no {bs : List UInt8} (h : brAt bs = 0 ∨ ¬ (bs.drop (brAt bs)).take 2 = [13, 10]) : rdHead bs = .none := by
  unfold rdHead
  split
  · rfl
  · rename_i m s e
    rcases h with h | h
    · rw [h] at e; simp at e
    · rw [if_neg h]
theorem rdHead_line {bs : List UInt8} {m : UInt8} {s : List UInt8} (h1 : bs.take (brAt bs) = m :: s) (h2 : (bs.drop (brAt bs)).take 2 = [13, 10]) : rdHead bs = rdLine m s (bs.drop (brAt bs + 2)) (brAt bs + 2) := by
  unfold rdHead
  rw [h1]
  simp only
  rw [if_pos h2]
/-- a whole line -/
theorem rdHead_at {m : UInt8} {s r : List UInt8} (hm : isBr m = false) (hs : ∀ b ∈ s, isBr b = false) : rdHead ((m :: (s ++ crlf)) ++ r) = rdLine m s r (s.length + 3) := by
  have e : (m :: (s ++ crlf)) ++ r = (m :: s) ++ 13 :: (10 :: r) := by simp [crlf]
  have hb : brAt ((m :: (s ++ crlf)) ++ r) = s.length + 1 := by
    rw [e, brAt_app _ _ _ (fun b hb => by
      rcases List.mem_cons.1 hb with rfl | hb
      · exact hm
      · exact hs b hb) (by decide)]
    rfl
  have e1 : ((m :: (s ++ crlf)) ++ r).take (s.length + 1) = m :: s := by rw [e]; exact List.take_left' rfl
  have e2 : ((m :: (s ++ crlf)) ++ r).drop (s.length + 1) = 13 :: 10 :: r := by rw [e]; exact List.drop_left' rfl
  have e3 : ((m :: (s ++ crlf)) ++ r).drop (s.length + 1 + 2) = r := by rw [← List.drop_drop, e2]; rfl
  rw [rdHead_line (m := m) (s := s) (by rw [hb, e1]) (by rw [hb, e2]; rfl), hb, e3]
/-- the reply takes at least three bytes, and they are there -/
theorem brAt_two {bs : List UInt8} (h : (bs.drop (brAt bs)).take 2 = [13, 10]) : brAt bs + 2 ≤ bs.length := by
  have := congrArg List.length h
  simp at this
  omega
theorem rdHead_len {bs : List UInt8} : (∀ t k, rdHead bs = .leaf t k → 3 ≤ k ∧ k ≤ bs.length) ∧ (∀ n k, rdHead bs = .list n k → 3 ≤ k ∧ k ≤ bs.length) := by
  by_cases h0 : brAt bs = 0 ∨ ¬ (bs.drop (brAt bs)).take 2 = [13, 10]
  · rw [rdHead_no h0]
    exact ⟨fun t k h => (by cases h), fun n k h => (by cases h)⟩
  · have h1 : brAt bs ≠ 0 := fun e => h0 (.inl e)
    have h2 : (bs.drop (brAt bs)).take 2 = [13, 10] := Classical.byContradiction fun e => h0 (.inr e)
    have h3 := brAt_two h2
    obtain ⟨m, s, hms⟩ : ∃ m s, bs.take (brAt bs) = m :: s := by
      cases e : bs.take (brAt bs) with
      | nil => have := congrArg List.length e; rw [List.length_take, List.length_nil] at this; omega
      | cons m s => exact ⟨m, s, rfl⟩
    rw [rdHead_line hms h2]
    unfold rdLine
    have hl : (bs.drop (brAt bs + 2)).length = bs.length - (brAt bs + 2) := by simp
    constructor
    · intro t k h
      split at h
      · cases h; omega
      split at h
      · cases h; omega
      split at h
      · cases h
      rename_i n _
      split at h
      · cases h; omega
      split at h
      · split at h
        · cases h; omega
        · split at h
          · rename_i h5
            have h6 := congrArg List.length h5.2.2
            simp only [List.length_take, List.length_drop, List.length_cons, List.length_nil] at h6
            cases h
            omega
          · cases h
      · split at h <;> cases h
    · intro n k h
      split at h
      · cases h
      split at h
      · cases h
      split at h
      · cases h
      split at h
      · cases h
      split at h
      · split at h
        · cases h
        · split at h <;> cases h
      · split at h
        · cases h; omega
        · cases h
theorem rdL_len {f : List UInt8 → Option (Rep × Nat)} (hf : ∀ bs t k, f bs = some (t, k) → 3 ≤ k ∧ k ≤ bs.length) : ∀ (n : Nat) (bs : List UInt8) (l : List Rep) (j : Nat), rdL f n bs = some (l, j) → l.length = n ∧ 3 * n ≤ j ∧ j ≤ bs.length
  | 0, bs, l, j, h => by
    simp only [rdL, Option.some.injEq, Prod.mk.injEq] at h
    obtain ⟨rfl, rfl⟩ := h
    simp
  | n + 1, bs, l, j, h => by
    unfold rdL at h
    split at h
    · cases h
    rename_i t k e
    split at h
    · cases h
    rename_i l' j' e'
    cases h
    obtain ⟨h1, h2⟩ := hf _ _ _ e
    obtain ⟨h3, h4, h5⟩ := rdL_len hf n _ _ _ e'
    simp only [List.length_drop] at h5
    simp only [List.length_cons]
    omega
theorem rdT_len : ∀ (d : Nat) (bs : List UInt8) (t : Rep) (k : Nat), rdT d bs = some (t, k) → 3 ≤ k ∧ k ≤ bs.length
  | 0, bs, t, k, h => by
    cases e : rdHead bs with
    | none => rw [rdT_none e] at h; cases h
    | leaf t' k' => rw [rdT_leaf e] at h; cases h; exact rdHead_len.1 _ _ e
    | list n k' => rw [rdT_list0 e] at h; cases h
  | d + 1, bs, t, k, h => by
    cases e : rdHead bs with
    | none => rw [rdT_none e] at h; cases h
    | leaf t' k' => rw [rdT_leaf e] at h; cases h; exact rdHead_len.1 _ _ e
    | list n k' =>
      rw [rdT_list e] at h
      have h1 := rdHead_len.2 _ _ e
      cases e2 : rdL (rdT d) n (bs.drop k') with
      | none => rw [e2] at h; cases h
      | some x =>
        rw [e2] at h
        cases h
        have h2 := rdL_len (rdT_len d) n _ x.1 x.2 e2
        simp only [List.length_drop] at h2
        omega
theorem rdL_snoc {f : List UInt8 → Option (Rep × Nat)} : ∀ (n : Nat) (bs : List UInt8), rdL f (n + 1) bs = (rdL f n bs).bind (fun x => (f (bs.drop x.2)).map (fun y => (x.1 ++ [y.1], x.2 + y.2)))
  | 0, bs => by
    simp only [rdL, Option.bind_some, List.drop_zero, List.nil_append]
    cases f bs with
    | none => rfl
    | some y => simp
  | n + 1, bs => by
    unfold rdL
    cases e : f bs with
    | none => rfl
    | some y =>
      obtain ⟨t, k⟩ := y
      simp only
      rw [rdL_snoc n (bs.drop k)]
      cases e2 : rdL f n (bs.drop k) with
      | none => rfl
      | some x =>
        obtain ⟨l, j⟩ := x
        simp only [Option.bind_some, List.drop_drop]
        cases e3 : f (bs.drop (k + j)) with
        | none => rfl
        | some z => simp [Nat.add_assoc]
/-- once none, always none -/
theorem rdL_stop {f : List UInt8 → Option (Rep × Nat)} {bs : List UInt8} : ∀ {n m : Nat}, n ≤ m → rdL f n bs = none → rdL f m bs = none := by
  intro n m h
  induction h with
  | refl => exact id
  | step _ ih => intro h0; rw [rdL_snoc, ih h0]; rfl
end Go.Proofs.YtipbakiecocioaaGreatDoor

/- bytes.IndexAny at the ends of lines: the walk. -/
namespace Go.V
open Go.RowKit
theorem enc_size (c : Nat) (hv : Utf8.valid (c : Int) = true) : (Utf8.encode (c : Int)).size = if c < 0x80 then 1 else if c < 0x800 then 2 else if c < 0x10000 then 3 else 4 := by
  unfold Utf8.encode
  simp only [hv, if_true, Int.toNat_natCast]
  split
  · rfl
  · split
    · rfl
    · split <;> rfl
/-- a rune that is read is written as long as it was -/
theorem enc_width (s : ByteArray) (i : Nat) (h : i < s.size) (hb : 128 ≤ (bget s i).toNat) (hr : (Utf8.decode s i).1 ≠ 65533) : (Utf8.encode ((Utf8.decode s i).1 : Int)).size = (Utf8.decode s i).2 := by
  have h0 : (s.get! i).toNat = (bget s i).toNat := by rw [bget_get' h]
  have hn : ¬ (s.get! i).toNat < 128 := by omega
  have vd : ∀ c : Nat, c < 0xD800 → Utf8.valid (c : Int) = true := fun c hc => by
    unfold Utf8.valid
    simp only [Bool.or_eq_true, Bool.and_eq_true, decide_eq_true_eq]
    omega
  generalize hd : Utf8.decode s i = d at hr ⊢
  simp only [Utf8.decode, Nat.add_zero, hn, if_false] at hd
  split at hd
  · rename_i q1
    split at hd
    · rename_i q2
      subst hd
      simp only [Bool.and_eq_true, beq_iff_eq] at q1
      rw [enc_size _ (vd _ (by omega)), if_neg (by omega), if_pos (by omega)]
    · subst hd; exact absurd rfl hr
  · split at hd
    · rename_i q2
      split at hd
      · rename_i q3
        subst hd
        simp only [Bool.and_eq_true, beq_iff_eq, decide_eq_true_eq] at q2 q3
        rw [enc_size _ q3.2, if_neg (by omega), if_neg (by omega), if_pos (by omega)]
      · subst hd; exact absurd rfl hr
    · split at hd
      · rename_i q3
        split at hd
        · rename_i q4
          subst hd
          simp only [Bool.and_eq_true, beq_iff_eq, decide_eq_true_eq] at q3 q4
          rw [enc_size _ q4.2, if_neg (by omega), if_neg (by omega), if_neg (by omega)]
        · subst hd; exact absurd rfl hr
      · subst hd; exact absurd rfl hr
section
variable {P : Program} {n : Nat} {ops : Array Oper} {dr : Nat × List Nat} {l : List Oper} {E : Env} {w : World} {K : Env → World → Prop}
variable {d : Option Nat} {ty : TypeId} {pos : String} {af : Array Edge} {g : Option (Nat × Bool)} {x y : Operand} {i : Int}
/-- a longer text is not found in a shorter one -/
theorem run_indexS (P : Program) (a b : ByteArray) {m : Int} {gm : Nat} (w : World) (hg : P.globals.findIdx? (·.name == "internal/bytealg.MaxLen") = some gm) (hm : hcell w.heap ⟨gm, 0, none⟩ = some (.int .i64 m)) (h1 : 2 ≤ b.size) (h2 : (b.size : Int) ≤ m) (h3 : a.size < b.size) (h4 : a.size < 1000) :
    (Extern.BytealgIndex.index #[.string a, .string b]).run P w = .ok (.int .i64 (-1)) w := by
  have hml : (Extern.BytealgIndex.maxLen).run P w = .ok m w := by
    unfold Extern.BytealgIndex.maxLen
    simp [globalAddr, hg, load, Sem.run, cell_eq, hm, asInt, asIntOf]
  have hr : a.size + 1 - b.size = 0 := by omega
  change Sem.run P (bind (Extern.Bytes.bytesOf (.string a)) _) w = _
  have ea : (Extern.Bytes.bytesOf (.string a)).run P w = .ok a w := rfl
  have eb : (Extern.Bytes.bytesOf (.string b)).run P w = .ok b w := rfl
  rw [Sem.run_bind, ea, Result.andThen_ok]
  change Sem.run P (bind (Extern.Bytes.bytesOf (.string b)) _) w = _
  rw [Sem.run_bind, eb, Result.andThen_ok]
  rw [Sem.run_bind, hml, Result.andThen_ok]
  have e1 : (decide (b.size < 2) || decide ((b.size : Int) > m)) = false := by
    simp only [Bool.or_eq_false_iff, decide_eq_false_iff_not]; omega
  rw [if_neg (by rw [e1]; decide)]
  simp only [Sem.run_bind, Sem.run_pure, Result.andThen_ok]
  rw [if_neg (by omega), hr]
  rfl
theorem G1_indexS {f : FuncId} {fn : Func} {a b : ByteArray} {m : Int} {gm : Nat} {tys : Array TypeId} (hf : P.funcs[f]? = some fn) (hname : (fn.name == "runtime.NumGoroutine") = false) (hb : fn.body.isNone = true) (hn : Extern.findNext fn = none) (hfi : Extern.find fn = some Extern.BytealgIndex.index)
    (hx : E.look x = some (.string a)) (hy : E.look y = some (.string b)) (hg : P.globals.findIdx? (·.name == "internal/bytealg.MaxLen") = some gm) (hm : hcell w.heap ⟨gm, 0, none⟩ = some (.int .i64 m)) (h1 : 2 ≤ b.size) (h2 : (b.size : Int) ≤ m) (h3 : a.size < b.size) (h4 : a.size < 1000) (he : effects P dr.1 ⟨d, .call ⟨.value (.func f), #[x, y], tys⟩, ty, pos, af, g⟩ = true) (hd : dstOk n d = true)
    (h : G P n ops dr l (E.put d (.int .i64 (-1))) w K) : G1 P n ops dr ⟨d, .call ⟨.value (.func f), #[x, y], tys⟩, ty, pos, af, g⟩ l E w K := by
  have hr : (callFunc f #[.string a, .string b]).run P w = .ok (.value (.int .i64 (-1))) w := by
    rw [run_callFunc_extern hf hname hb hn hfi, run_indexS P a b w hg hm h1 h2 h3 h4]
    rfl
  exact G1_eff _ w he hd (fun a ha => by
    have e0 : a.eval (.func f) = .func (.func f) #[] #[] := rfl
    simp [execOp, resolve, Deferred.ofValue, e0, invoke, ha.eval hx, ha.eval hy, hr]) (.inr ExtS.rfl') h
end
end Go.V
namespace Go.Proofs.YtipbakiecocioaaGreatDoor
open Go.V
attribute [local irreducible] Blk Own hcell IntT SliceT PlainT AggT SizeT StrT FieldT ZeroT EqT ArrT
/-- the library's tables of runes, and a number in the variable MaxLen -/
structure Utf (w : World) : Prop where
  tabs : Lib.Utf8Tabs (Tryz.layDR_ren.g 2) (Tryz.layDR_ren.g 3) w
  most : ∃ m : Int, hcell w.heap ⟨0, 0, none⟩ = some (.int .i64 m)
theorem Utf.ext {w w' : World} (h : Utf w) (hx : Ext w w') : Utf w' := ⟨Utf8Tabs_below h.tabs hx, h.most.imp fun _ hm => hx.cell hm⟩
theorem gMax : Tryz.prog.globals.findIdx? (·.name == "internal/bytealg.MaxLen") = some 0 := by kernel_rfl
theorem is0 : Extern.findNext Tryz.f80 = none := by kernel_rfl
theorem is1 : Extern.find Tryz.f80 = some Extern.BytealgIndex.index := by kernel_rfl
theorem wrap_i32_u8 (x : UInt8) : IntKind.i32.wrap (x.toNat : Int) = (x.toNat : Int) := by
  have := x.toNat_lt
  simp only [IntKind.wrap_i32]; omega
theorem decodeRune_spec {p : Option Addr} {c : Nat} {xs : List UInt8} {w : World} (hs : Sl w.heap eByte p c xs) (h0 : xs ≠ []) (hU : Utf w) :
    Ctr Tryz.prog 79 [.slice p xs.length c] w (fun v w' => v = .tuple #[.int .i32 (Utf8.decode (mkStr xs) 0).1, .int .i64 (Utf8.decode (mkStr xs) 0).2] ∧ Ext w w') := by
  have hl : 0 < xs.length := List.length_pos_iff.2 h0
  have hle := hs.ok.le
  obtain ⟨a, rfl⟩ : ∃ a, p = some a := by
    cases p with
    | none => have := hs.ok.nul rfl; omega
    | some a => exact ⟨a, rfl⟩
  have hsp := hs.ok.spot a rfl (by omega)
  obtain ⟨b, off, sp⟩ := a
  simp only at hsp
  subst hsp
  have hsz : (mkStr xs).size = xs.length := mkStr_size xs
  have key := Any7.utf8_DecodeRune Tryz.layDR (mkStr xs) b off c w hU.tabs (fun j hj => by
    rw [hsz] at hj
    obtain ⟨x, hx⟩ := get_some hj
    have h1 := hs.cell j x hx 0 (.int .u8 (x.toNat : Int)) rfl
    have h2 : ((mkStr xs).get! j) = x := by
      rw [bget_get' (by rw [hsz]; exact hj), bget_list]
      have : (mkStr xs).data.toList = xs := by unfold mkStr; simp
      rw [this, List.getD_eq_getElem?_getD, hx]
      rfl
    rw [h2]
    have e : adr (some ⟨b, off, none⟩) (j * eByte.sz + 0) = ⟨b, off + j, none⟩ := by
      simp [adr, Addr.add, eByte]
    rw [e] at h1
    rw [cell_eq]
    exact h1)
  unfold Ctr
  refine ⟨⟨Tryz.f79, Tryz.func79, by decide, rfl⟩, ?_⟩
  rw [hsz] at key
  refine Calls.mono key fun e w' ⟨he, hw⟩ => ⟨_, he, ?_, hw⟩
  unfold Lib.decodeGo
  rw [if_neg (by omega)]
theorem drop_at {α : Type} {xs : List α} {k : Nat} {x : α} (h : xs[k]? = some x) : xs.drop k = x :: xs.drop (k + 1) := by
  rw [List.drop_eq_getElem_cons (get_lt h)]
  rw [List.getElem?_eq_getElem (get_lt h)] at h
  injection h with h
  rw [h]
/-- where the first end-of-line sign is, or -1 -/
def brI (bs : List UInt8) : Int := if brAt bs < bs.length then (brAt bs : Int) else -1
theorem brI_at {bs : List UInt8} {k : Nat} {x : UInt8} (hk : bs[k]? = some x) (hx : isBr x = true) (hn : ∀ b ∈ bs.take k, isBr b = false) : brI bs = (k : Int) := by
  have hlt := get_lt hk
  have e : bs = bs.take k ++ x :: bs.drop (k + 1) := by
    rw [← drop_at hk, List.take_append_drop]
  have hb : brAt bs = k := by
    rw [e, brAt_app _ _ _ hn hx, List.length_take]
    omega
  unfold brI
  rw [hb, if_pos hlt]
theorem brI_no {bs : List UInt8} (hn : ∀ b ∈ bs, isBr b = false) : brI bs = -1 := by
  have hb : ¬ brAt bs < bs.length := fun h => by
    obtain ⟨c, h1, h2⟩ := brAt_is bs h
    rw [hn c (List.mem_of_getElem? h1)] at h2
    cases h2
  unfold brI
  rw [if_neg hb]
theorem no_snoc {bs : List UInt8} {k : Nat} {x : UInt8} (hk : bs[k]? = some x) (hx : isBr x = false) (hn : ∀ b ∈ bs.take k, isBr b = false) : ∀ b ∈ bs.take (k + 1), isBr b = false := by
  intro b hb
  rw [take_snoc hk] at hb
  rcases List.mem_append.1 hb with hb | hb
  · exact hn b hb
  · rw [List.mem_singleton.1 hb]; exact hx
theorem isBr_hi {x : UInt8} (h : 128 ≤ x.toNat) : isBr x = false := by
  cases e : isBr x with
  | false => rfl
  | true => have := br_lo e; omega
theorem isBr_of (x : UInt8) : isBr x = ((decide (x.toNat = 13) && decide (0 < 2)) || (decide (x.toNat = 10) && decide (1 < 2))) := by
  have key : ∀ n : Fin 256, isBr (UInt8.ofNat n.val) = ((decide ((UInt8.ofNat n.val).toNat = 13) && decide (0 < 2)) || (decide ((UInt8.ofNat n.val).toNat = 10) && decide (1 < 2))) := by decide +kernel
  have h := key ⟨x.toNat, UInt8.toNat_lt x⟩
  simpa using h

set_option maxRecDepth 100000 in
theorem bytesIndex_spec {p : Option Addr} {c : Nat} {bs : List UInt8} {w : World} (hC : Sl w.heap eByte p c bs) (hU : Utf w) :
    Ctr Tryz.prog 41 [.slice p bs.length c, .string brs] w (fun v w' => v = .int .i64 (brI bs) ∧ Ext w w') := by
  have hse : ¬ brs = ⟨#[]⟩ := by decide
  have hss := br_size
  have n1 := hC.bound
  have hok := hC.ok
  refine Ctr_of Tryz.func41 Tryz.ntmps41 rfl rfl rfl ?_
  rcases (show bs.length = 0 ∨ bs.length = 1 ∨ (2 ≤ bs.length ∧ bs.length ≤ 8) ∨ 8 < bs.length by omega) with h0 | h1 | h2 | h8
  · obtain rfl := List.eq_nil_of_length_eq_zero h0
    have hsu : ∀ w, Ctr Tryz.prog 76 [.int .i64 (([] : List UInt8).length : Int)] w (fun v w' => v = .bool false ∧ Ext w w') := fun w => should_spec.mono fun v w' ⟨a1, a2⟩ => ⟨a1, a2⟩
    repeat' (first | (apply G_on; exact rfl; first | ((first | apply G1_assign | apply G1_move); exact rfl; exact rfl) | (apply G1_call (f := 76); exact rfl; exact rfl; exact rfl; exact hsu _; rintro _ w1 ⟨rfl, hx1⟩; refine ⟨(by first | exact .inl rfl | exact .inr (by assumption)), ?_⟩) | (apply G1_seql; exact rfl; exact rfl; exact rfl) | (apply G1_len; exact T.s22; exact rfl; exact rfl) | (apply G1_eql; exact rfl; exact rfl; exact rfl) | (apply G1_slen; exact T.str9; exact rfl; exact rfl)) | apply G_nil | apply Post_next | apply W_seq | apply W_region | (apply W_cond_false; exact rfl) | apply W_skip | apply W_block)
    refine W_loop (ι := Unit) (fun _ => [(0, .slice p ([] : List UInt8).length c), (12, .int .i64 0)]) (fun _ w' => Ext w w') (fun _ => 0) () ⟨rfl, rfl, trivial⟩ (by repeat first | assumption | exact Ext.rfl' | apply Ext.drew | apply Ext.alloc | refine Ext.trans ?_ (by assumption)) ?_
    rintro _ w3 hx3
    repeat' (first | (apply G_on; exact rfl; first | ((first | apply G1_assign | apply G1_move); exact rfl; exact rfl) | (apply G1_len; exact T.s22; exact rfl; exact rfl) | (apply G1_lss; exact rfl; exact rfl; exact rfl)) | apply G_nil | apply Post_next | apply W_seq | apply W_region | (apply W_cond_false; exact rfl) | apply W_exit | apply W_ret | apply Post_then_exit | apply Post_block_exit)
    refine Post_ret Tryz.results41 ⟨_, _, rfl, rfl, rfl⟩ ?_
    exact ⟨rfl, (by repeat first | assumption | exact Ext.rfl' | apply Ext.drew | apply Ext.alloc | refine Ext.trans ?_ (by assumption))⟩
  · obtain ⟨x, rfl⟩ : ∃ x, bs = [x] := by
      cases bs with
      | nil => cases h1
      | cons x l => cases l with
        | nil => exact ⟨x, rfl⟩
        | cons y l => simp at h1
    have hq : [x][0]? = some x := rfl
    have hxl := x.toNat_lt
    have hsg := br_idx x
    by_cases hb : x.toNat < 128
    · repeat' (first | (apply G_on; exact rfl; first | ((first | apply G1_assign | apply G1_move); exact rfl; exact rfl) | (apply G1_convE (j := (x.toNat : Int)); exact rfl; exact T.i5; exact T.i21; exact wrap_i32_u8 x; exact rfl) | (apply G1_indexByte; exact Tryz.func74; exact rfl; exact rfl; exact ib0; exact ib1; exact rfl; exact rfl; exact rfl; exact rfl) | (apply G1_seql; exact rfl; exact rfl; exact rfl) | (apply G1_len; exact T.s22; exact rfl; exact rfl) | (apply G1_eql; exact rfl; exact rfl; exact rfl) | (apply G1_indexAddr; exact T.s22; exact rfl; exact rfl; (first | assumption | exact Sl.ok (by assumption) | exact (Own.sl (by assumption)).ok); omega; omega; exact rfl) | (apply G1_loadEl1; exact T.p5; exact rfl; assumption; assumption; exact rfl; exact rfl; exact rfl) | (apply G1_geq; exact rfl; exact rfl; exact rfl)) | apply G_nil | apply Post_next | apply W_seq | apply W_region | (apply W_cond_true; exact rfl) | (apply W_cond_false; exact rfl) | (apply W_cond_dec; exact rfl; all_goals (intro h; try (exfalso; omega))) | apply W_skip | apply W_ret | apply Post_then_ret)
      · refine Post_ret Tryz.results41 ⟨_, _, rfl, rfl, rfl⟩ ?_
        rw [toUInt8_nat] at h
        exact ⟨by rw [brI_at (k := 0) hq (by rw [← hsg]; exact decide_eq_true h) (by simp)]; rfl, (by repeat first | assumption | exact Ext.rfl' | apply Ext.drew | apply Ext.alloc | refine Ext.trans ?_ (by assumption))⟩
      · refine Post_ret Tryz.results41 ⟨_, _, rfl, rfl, rfl⟩ ?_
        rw [toUInt8_nat] at h
        have hno : isBr x = false := by rw [← hsg]; exact decide_eq_false h
        exact ⟨by rw [brI_no (by intro b hb; rw [List.mem_singleton.1 hb]; exact hno)]; rfl, (by repeat first | assumption | exact Ext.rfl' | apply Ext.drew | apply Ext.alloc | refine Ext.trans ?_ (by assumption))⟩
    · have hno := isBr_hi (x := x) (by omega)
      repeat' (first | (apply G_on; exact rfl; first | ((first | apply G1_assign | apply G1_move); exact rfl; exact rfl) | (apply G1_convE (j := (x.toNat : Int)); exact rfl; exact T.i5; exact T.i21; exact wrap_i32_u8 x; exact rfl) | (apply G1_seql; exact rfl; exact rfl; exact rfl) | (apply G1_len; exact T.s22; exact rfl; exact rfl) | (apply G1_eql; exact rfl; exact rfl; exact rfl) | (apply G1_indexAddr; exact T.s22; exact rfl; exact rfl; (first | assumption | exact Sl.ok (by assumption) | exact (Own.sl (by assumption)).ok); omega; omega; exact rfl) | (apply G1_loadEl1; exact T.p5; exact rfl; assumption; assumption; exact rfl; exact rfl; exact rfl) | (apply G1_geq; exact rfl; exact rfl; exact rfl)) | apply G_nil | apply Post_next | apply W_seq | apply W_region | (apply W_cond_true; exact rfl) | (apply W_cond_false; exact rfl) | (apply W_cond_dec; exact rfl; all_goals (intro h; try (exfalso; omega))) | apply W_skip)
      apply G_on; exact rfl
      apply G1_rangeS; exact T.str9; exact rfl; exact rfl; exact rfl
      intro wi hii hxi hzi
      obtain ⟨kb, hkb⟩ : ∃ k, w.heap.size = k := ⟨_, rfl⟩
      rw [hkb] at hii ⊢
      have hkw : w.heap.size ≤ kb := by have := (show Ext w w from (by repeat first | assumption | exact Ext.rfl' | apply Ext.drew | apply Ext.alloc | refine Ext.trans ?_ (by assumption))).size; omega
      replace hxi : Ext w wi := (show Ext w w from (by repeat first | assumption | exact Ext.rfl' | apply Ext.drew | apply Ext.alloc | refine Ext.trans ?_ (by assumption))).trans hxi
      repeat' (first | apply G_nil | apply Post_next | apply W_block)
      refine W_loop (ι := Nat) (fun _ => [(28, .pointer (some ⟨kb, 0, none⟩))]) (fun k w' => Ext w w' ∧ Itr w' kb brs k ∧ k ≤ 2) (fun k => 2 - k) 0 ⟨rfl, trivial⟩ ⟨hxi, hii, Nat.zero_le _⟩ ?_
      clear hii hxi hzi
      rintro kk wj ⟨hxj, hij, hkk⟩
      by_cases hlk : kk < 2
      · have hdk := br_dec (k := kk) (by omega)
        have hbk := br_get hlk
        repeat' (first | apply W_seq | apply W_region)
        apply G_on; exact rfl
        apply G1_nextS (s := brs) (m := kk); exact rfl; exact hij; omega; exact hdk; exact rfl; exact rfl; exact rfl
        intro wk hik hgk hzk
        have hxk : Ext w wk := hxj.own hgk (fun k hk => by injection hk with hk; omega)
        repeat' (first | (apply G_on; exact rfl; first | ((first | apply G1_assign | apply G1_move); exact rfl; exact rfl) | (apply G1_eql; exact rfl; exact rfl; exact rfl) | (apply G1_extract; exact rfl; exact rfl; exact rfl)) | apply G_nil | apply Post_next | apply W_seq | apply W_region | (apply W_cond_true; exact rfl) | (apply W_cond_dec; exact rfl; all_goals (intro h; try (exfalso; omega))) | apply W_skip | apply W_block | apply Post_block_normal)
        all_goals exact Post_round (kk + 1) ⟨rfl, trivial⟩ ⟨hxk, hik, by omega⟩ (by omega)
      · repeat' (first | apply W_seq | apply W_region)
        apply G_on; exact rfl
        apply G1_nextE (s := brs) (m := kk); exact rfl; exact hij; omega; exact rfl; exact rfl; exact rfl
        repeat' (first | (apply G_on; exact rfl; first | (apply G1_assign; exact rfl; exact rfl) | (apply G1_extract; exact rfl; exact rfl; exact rfl)) | apply G_nil | apply Post_next | apply W_seq | apply W_region | (apply W_cond_false; exact rfl) | apply W_exit | apply W_ret | apply Post_then_ret | apply Post_then_exit | apply Post_block_exit)
        refine Post_ret Tryz.results41 ⟨_, _, rfl, rfl, rfl⟩ ?_
        exact ⟨by rw [brI_no (by intro b hb; rw [List.mem_singleton.1 hb]; exact hno)]; rfl, (by repeat first | assumption | exact Ext.rfl' | apply Ext.drew | apply Ext.alloc | refine Ext.trans ?_ (by assumption))⟩
  · have hsu : ∀ w, Ctr Tryz.prog 76 [.int .i64 (bs.length : Int)] w (fun v w' => v = .bool false ∧ Ext w w') := fun w => should_spec.mono fun v w' ⟨a1, a2⟩ => ⟨by rw [a1, decide_eq_false (by omega)], a2⟩
    repeat' (first | (apply G_on; exact rfl; first | ((first | apply G1_assign | apply G1_move); exact rfl; exact rfl) | (apply G1_call (f := 76); exact rfl; exact rfl; exact rfl; exact hsu _; rintro _ w1 ⟨rfl, hx1⟩; refine ⟨(by first | exact .inl rfl | exact .inr (by assumption)), ?_⟩) | (apply G1_seql; exact rfl; exact rfl; exact rfl) | (apply G1_len; exact T.s22; exact rfl; exact rfl) | (apply G1_eql; exact rfl; exact rfl; exact rfl) | (apply G1_slen; exact T.str9; exact rfl; exact rfl)) | apply G_nil | apply Post_next | apply W_seq | apply W_region | (apply W_cond_false; exact rfl) | (apply W_cond_dec; exact rfl; all_goals (intro h; try (exfalso; omega))) | apply W_skip | apply W_block)
    refine W_loop (ι := Nat) (fun k => [(0, .slice p bs.length c), (1, .string brs), (12, .int .i64 (k : Int))]) (fun k w' => Ext w w' ∧ k ≤ bs.length ∧ ∀ b ∈ bs.take k, isBr b = false) (fun k => bs.length - k) 0 ⟨rfl, rfl, rfl, trivial⟩ ⟨(by repeat first | assumption | exact Ext.rfl' | apply Ext.drew | apply Ext.alloc | refine Ext.trans ?_ (by assumption)), Nat.zero_le _, by simp⟩ ?_
    clear hx1 w1
    rintro k w1 ⟨hx1, hk, hn⟩
    have hC1 := hC.ext hx1
    have hU1 := hU.ext hx1
    by_cases hlt : k < bs.length
    · obtain ⟨x, hq⟩ := get_some hlt
      have hxl := x.toNat_lt
      have hsg := br_idx x
      by_cases hb : x.toNat < 128
      · repeat' (first | (apply G_on; exact rfl; first | ((first | apply G1_assign | apply G1_move); exact rfl; exact rfl) | (apply G1_convE (j := (x.toNat : Int)); exact rfl; exact T.i5; exact T.i21; exact wrap_i32_u8 x; exact rfl) | (apply G1_indexByte; exact Tryz.func74; exact rfl; exact rfl; exact ib0; exact ib1; exact rfl; exact rfl; exact rfl; exact rfl) | (apply G1_len; exact T.s22; exact rfl; exact rfl) | (apply G1_indexAddrN; exact T.s22; exact rfl; exact rfl; (first | assumption | exact Sl.ok (by assumption) | exact (Own.sl (by assumption)).ok); omega; exact rfl) | (apply G1_loadEl1; exact T.p5; exact rfl; assumption; assumption; exact rfl; exact rfl; exact rfl) | ((first | apply G1_geq | apply G1_lss); exact rfl; exact rfl; exact rfl) | (apply G1_add; exact rfl; exact rfl; omega; omega; exact rfl)) | apply G_nil | apply Post_next | apply W_seq | apply W_region | (apply W_cond_dec; exact rfl; all_goals (intro h; try (exfalso; omega))) | apply W_skip | apply W_exit | apply W_ret | apply W_block | apply Post_then_ret | apply Post_block_ret | apply Post_then_exit | apply Post_block_exit)
        · refine Post_ret Tryz.results41 ⟨_, _, rfl, rfl, rfl⟩ ?_
          rw [toUInt8_nat] at h
          exact ⟨by rw [brI_at hq (by rw [← hsg]; exact decide_eq_true h) hn]; rfl, (by repeat first | assumption | exact Ext.rfl' | apply Ext.drew | apply Ext.alloc | refine Ext.trans ?_ (by assumption))⟩
        · rw [toUInt8_nat] at h
          have hno : isBr x = false := by rw [← hsg]; exact decide_eq_false h
          exact Post_round (k + 1) ⟨rfl, rfl, rfl, trivial⟩ ⟨(by repeat first | assumption | exact Ext.rfl' | apply Ext.drew | apply Ext.alloc | refine Ext.trans ?_ (by assumption)), by omega, no_snoc hq hno hn⟩ (by omega)
      · obtain ⟨s, hs⟩ : ∃ s, mkStr (bs.drop k) = s := ⟨_, rfl⟩
        have hssz : s.size = bs.length - k := by rw [← hs, mkStr_size, List.length_drop]
        have hsl : s.data.toList = bs.drop k := by rw [← hs]; unfold mkStr; simp
        have hsg2 : ∀ j, bget s j = (bs.drop k).getD j 0 := fun j => by rw [bget_list, hsl]
        have hb0 : 128 ≤ (bget s 0).toNat := by
          rw [hsg2, List.getD_eq_getElem?_getD, List.getElem?_drop, Nat.add_zero, hq]
          show 128 ≤ x.toNat
          omega
        obtain ⟨d1, d2, d3, d4, d5⟩ := decode_skip s 0 (by omega) hb0
        have hew := enc_width s 0 (by omega) hb0
        have hd := hC1.drop (l := k) (by have := hok.le; omega)
        have hdr := fun w2 (hx : Ext w1 w2) => decodeRune_spec (hd.ext hx) (by intro e; have := congrArg List.length e; simp at this; omega) (hU1.ext hx)
        rw [hs] at hdr
        simp only [List.length_drop] at hdr
        obtain ⟨v, hv⟩ : ∃ v, Utf8.decode s 0 = v := ⟨_, rfl⟩
        rw [hv] at d1 d2 d3 d4 d5 hew hdr
        obtain ⟨rf1, rf2, rf3⟩ := rune_facts v.1 d1
        have hno2 : ∀ b ∈ bs.take (k + v.2), isBr b = false := by
          intro b hb
          obtain ⟨j, hj⟩ := List.getElem?_of_mem hb
          have hjl := get_lt hj
          rw [List.length_take] at hjl
          rw [List.getElem?_take] at hj
          rw [if_pos (by omega)] at hj
          by_cases hjk : j < k
          · exact hn b (List.mem_of_getElem? (show (bs.take k)[j]? = some b by rw [List.getElem?_take, if_pos hjk]; exact hj))
          · have := d5 (j - k) (by omega) (by omega)
            rw [hsg2, List.getD_eq_getElem?_getD, List.getElem?_drop, show k + (j - k) = j by omega, hj] at this
            exact isBr_hi this
        have hns : ¬ brs = Utf8.encode (v.1 : Int) := fun e => by
          rw [← e] at rf3
          revert rf3
          decide
        obtain ⟨mx, hmx⟩ := hU1.most
        obtain ⟨rI, hrI⟩ : ∃ r : Int, r = (v.1 : Int) := ⟨_, rfl⟩
        obtain ⟨wI, hwI⟩ : ∃ r : Int, r = (v.2 : Int) := ⟨_, rfl⟩
        rw [← hrI] at hns hew rf1 rf2
        simp only [← hrI, ← hwI] at hdr
        have hew2 : ¬ rI = 65533 → (Utf8.encode rI).size = v.2 := fun e => hew (by omega)
        clear hew
        repeat' (first | (apply G_on; exact rfl; first | ((first | apply G1_assign | apply G1_move); exact rfl; exact rfl) | (apply G1_convE (j := (x.toNat : Int)); exact rfl; exact T.i5; exact T.i21; exact wrap_i32_u8 x; exact rfl) | (apply G1_sliceLoJ (q := k); exact T.s22; exact rfl; exact rfl; exact rfl; exact hok; omega; exact rfl) | (apply G1_call (f := 79); exact rfl; exact rfl; exact rfl; exact hdr _ (by repeat first | assumption | exact Ext.rfl' | apply Ext.drew | apply Ext.alloc | refine Ext.trans ?_ (by assumption)); rintro _ w2 ⟨rfl, hx2⟩; refine ⟨(by first | exact .inl rfl | exact .inr (by assumption)), ?_⟩) | (apply G1_runeStr; exact T.i21; exact T.str9; exact rfl; exact rfl) | (apply G1_load (p := some ⟨0, 0, none⟩) (m := 0); exact T.p3; exact rfl; exact Ext.cell (by repeat first | assumption | exact Ext.rfl' | apply Ext.drew | apply Ext.alloc | refine Ext.trans ?_ (by assumption)) hmx; exact rfl) | (apply G1_indexS (a := brs) (b := Utf8.encode rI) (m := mx); exact Tryz.func80; exact rfl; exact rfl; exact is0; exact is1; exact rfl; exact rfl; exact gMax; exact Ext.cell (by repeat first | assumption | exact Ext.rfl' | apply Ext.drew | apply Ext.alloc | refine Ext.trans ?_ (by assumption)) hmx; exact rf1; (have := hew2 (by assumption); omega); (have := hew2 (by assumption); omega); omega; exact rfl; exact rfl) | (apply G1_seql; exact rfl; exact rfl; exact rfl) | (apply G1_len; exact T.s22; exact rfl; exact rfl) | (apply G1_eql; exact rfl; exact rfl; exact rfl) | (apply G1_indexAddrN; exact T.s22; exact rfl; exact rfl; (first | assumption | exact Sl.ok (by assumption) | exact (Own.sl (by assumption)).ok); omega; exact rfl) | (apply G1_loadEl1; exact T.p5; exact rfl; assumption; assumption; exact rfl; exact rfl; exact rfl) | ((first | apply G1_geq | apply G1_extract | apply G1_lss | apply G1_neq); exact rfl; exact rfl; exact rfl) | (apply G1_slen; exact T.str9; exact rfl; exact rfl) | (apply G1_add; exact rfl; exact rfl; omega; omega; exact rfl)) | apply G_nil | apply Post_next | apply W_seq | apply W_region | (apply W_cond_false; exact rfl) | (apply W_cond_dec; exact rfl; all_goals (intro h; try (exfalso; omega))) | apply W_skip | apply W_exit | apply W_ret | apply W_block | apply Post_then_ret | apply Post_block_ret | apply Post_then_exit | apply Post_block_exit)
        · exact absurd (by assumption) hns
        · exact Post_round (k + v.2) ⟨rfl, rfl, by show some (Value.int .i64 _) = some (Value.int .i64 _); congr 2; omega, trivial⟩ ⟨(by repeat first | assumption | exact Ext.rfl' | apply Ext.drew | apply Ext.alloc | refine Ext.trans ?_ (by assumption)), by omega, hno2⟩ (by omega)
        · exact Post_round (k + v.2) ⟨rfl, rfl, by show some (Value.int .i64 _) = some (Value.int .i64 _); congr 2; omega, trivial⟩ ⟨(by repeat first | assumption | exact Ext.rfl' | apply Ext.drew | apply Ext.alloc | refine Ext.trans ?_ (by assumption)), by omega, hno2⟩ (by omega)
        · apply G_on; exact rfl
          apply G1_rangeS; exact T.str9; exact rfl; exact rfl; exact rfl
          intro wi hii hxi hzi
          obtain ⟨kb, hkb⟩ : ∃ k, w2.heap.size = k := ⟨_, rfl⟩
          rw [hkb] at hii ⊢
          have hkw : w.heap.size ≤ kb := by have := (show Ext w w2 from (by repeat first | assumption | exact Ext.rfl' | apply Ext.drew | apply Ext.alloc | refine Ext.trans ?_ (by assumption))).size; omega
          replace hxi : Ext w wi := (show Ext w w2 from (by repeat first | assumption | exact Ext.rfl' | apply Ext.drew | apply Ext.alloc | refine Ext.trans ?_ (by assumption))).trans hxi
          repeat' (first | apply G_nil | apply Post_next | apply W_block)
          refine W_loop (ι := Nat) (fun _ => [(0, .slice p bs.length c), (1, .string brs), (11, .int .i64 wI), (12, .int .i64 (k : Int)), (13, .int .i32 rI), (121, .pointer (some ⟨kb, 0, none⟩))]) (fun k w' => Ext w w' ∧ Itr w' kb brs k ∧ k ≤ 2) (fun k => 2 - k) 0 ⟨rfl, rfl, rfl, rfl, rfl, rfl, trivial⟩ ⟨hxi, hii, Nat.zero_le _⟩ ?_
          clear hii hxi hzi
          rintro kk wj ⟨hxj, hij, hkk⟩
          by_cases hlk : kk < 2
          · have hdk := br_dec (k := kk) (by omega)
            have hbk := br_get hlk
            repeat' (first | apply W_seq | apply W_region)
            apply G_on; exact rfl
            apply G1_nextS (s := brs) (m := kk); exact rfl; exact hij; omega; exact hdk; exact rfl; exact rfl; exact rfl
            intro wk hik hgk hzk
            have hxk : Ext w wk := hxj.own hgk (fun k hk => by injection hk with hk; omega)
            repeat' (first | (apply G_on; exact rfl; first | ((first | apply G1_assign | apply G1_move); exact rfl; exact rfl) | (apply G1_eql; exact rfl; exact rfl; exact rfl) | (apply G1_extract; exact rfl; exact rfl; exact rfl)) | apply G_nil | apply Post_next | apply W_seq | apply W_region | (apply W_cond_true; exact rfl) | (apply W_cond_dec; exact rfl; all_goals (intro h; try (exfalso; omega))) | apply W_skip | apply W_block | apply Post_block_normal)
            all_goals exact Post_round (kk + 1) ⟨rfl, rfl, rfl, rfl, rfl, rfl, trivial⟩ ⟨hxk, hik, by omega⟩ (by omega)
          · repeat' (first | apply W_seq | apply W_region)
            apply G_on; exact rfl
            apply G1_nextE (s := brs) (m := kk); exact rfl; exact hij; omega; exact rfl; exact rfl; exact rfl
            repeat' (first | (apply G_on; exact rfl; first | ((first | apply G1_assign | apply G1_move); exact rfl; exact rfl) | (apply G1_extract; exact rfl; exact rfl; exact rfl) | (apply G1_add; exact rfl; exact rfl; omega; omega; exact rfl)) | apply G_nil | apply Post_next | apply W_seq | apply W_region | (apply W_cond_false; exact rfl) | apply W_exit | apply Post_then_exit | apply Post_block_exit | apply Post_block_normal)
            exact Post_round (k + v.2) ⟨rfl, rfl, by show some (Value.int .i64 _) = some (Value.int .i64 _); congr 2; omega, trivial⟩ ⟨(by repeat first | assumption | exact Ext.rfl' | apply Ext.drew | apply Ext.alloc | refine Ext.trans ?_ (by assumption)), by omega, hno2⟩ (by omega)
        · apply G_on; exact rfl
          apply G1_rangeS; exact T.str9; exact rfl; exact rfl; exact rfl
          intro wi hii hxi hzi
          obtain ⟨kb, hkb⟩ : ∃ k, w2.heap.size = k := ⟨_, rfl⟩
          rw [hkb] at hii ⊢
          have hkw : w.heap.size ≤ kb := by have := (show Ext w w2 from (by repeat first | assumption | exact Ext.rfl' | apply Ext.drew | apply Ext.alloc | refine Ext.trans ?_ (by assumption))).size; omega
          replace hxi : Ext w wi := (show Ext w w2 from (by repeat first | assumption | exact Ext.rfl' | apply Ext.drew | apply Ext.alloc | refine Ext.trans ?_ (by assumption))).trans hxi
          repeat' (first | apply G_nil | apply Post_next | apply W_block)
          refine W_loop (ι := Nat) (fun _ => [(0, .slice p bs.length c), (1, .string brs), (11, .int .i64 wI), (12, .int .i64 (k : Int)), (13, .int .i32 rI), (121, .pointer (some ⟨kb, 0, none⟩))]) (fun k w' => Ext w w' ∧ Itr w' kb brs k ∧ k ≤ 2) (fun k => 2 - k) 0 ⟨rfl, rfl, rfl, rfl, rfl, rfl, trivial⟩ ⟨hxi, hii, Nat.zero_le _⟩ ?_
          clear hii hxi hzi
          rintro kk wj ⟨hxj, hij, hkk⟩
          by_cases hlk : kk < 2
          · have hdk := br_dec (k := kk) (by omega)
            have hbk := br_get hlk
            repeat' (first | apply W_seq | apply W_region)
            apply G_on; exact rfl
            apply G1_nextS (s := brs) (m := kk); exact rfl; exact hij; omega; exact hdk; exact rfl; exact rfl; exact rfl
            intro wk hik hgk hzk
            have hxk : Ext w wk := hxj.own hgk (fun k hk => by injection hk with hk; omega)
            repeat' (first | (apply G_on; exact rfl; first | ((first | apply G1_assign | apply G1_move); exact rfl; exact rfl) | (apply G1_eql; exact rfl; exact rfl; exact rfl) | (apply G1_extract; exact rfl; exact rfl; exact rfl)) | apply G_nil | apply Post_next | apply W_seq | apply W_region | (apply W_cond_true; exact rfl) | (apply W_cond_dec; exact rfl; all_goals (intro h; try (exfalso; omega))) | apply W_skip | apply W_block | apply Post_block_normal)
            all_goals exact Post_round (kk + 1) ⟨rfl, rfl, rfl, rfl, rfl, rfl, trivial⟩ ⟨hxk, hik, by omega⟩ (by omega)
          · repeat' (first | apply W_seq | apply W_region)
            apply G_on; exact rfl
            apply G1_nextE (s := brs) (m := kk); exact rfl; exact hij; omega; exact rfl; exact rfl; exact rfl
            repeat' (first | (apply G_on; exact rfl; first | ((first | apply G1_assign | apply G1_move); exact rfl; exact rfl) | (apply G1_extract; exact rfl; exact rfl; exact rfl) | (apply G1_add; exact rfl; exact rfl; omega; omega; exact rfl)) | apply G_nil | apply Post_next | apply W_seq | apply W_region | (apply W_cond_false; exact rfl) | apply W_exit | apply Post_then_exit | apply Post_block_exit | apply Post_block_normal)
            exact Post_round (k + v.2) ⟨rfl, rfl, by show some (Value.int .i64 _) = some (Value.int .i64 _); congr 2; omega, trivial⟩ ⟨(by repeat first | assumption | exact Ext.rfl' | apply Ext.drew | apply Ext.alloc | refine Ext.trans ?_ (by assumption)), by omega, hno2⟩ (by omega)
    · have hk' : k = bs.length := by omega
      subst hk'
      rw [List.take_of_length_le (Nat.le_refl _)] at hn
      repeat' (first | (apply G_on; exact rfl; first | ((first | apply G1_assign | apply G1_move); exact rfl; exact rfl) | (apply G1_len; exact T.s22; exact rfl; exact rfl) | (apply G1_lss; exact rfl; exact rfl; exact rfl)) | apply G_nil | apply Post_next | apply W_seq | apply W_region | (apply W_cond_dec; exact rfl; all_goals (intro h; try (exfalso; omega))) | apply W_exit | apply W_ret | apply Post_then_exit | apply Post_block_exit)
      refine Post_ret Tryz.results41 ⟨_, _, rfl, rfl, rfl⟩ ?_
      exact ⟨by rw [brI_no hn]; rfl, (by repeat first | assumption | exact Ext.rfl' | apply Ext.drew | apply Ext.alloc | refine Ext.trans ?_ (by assumption))⟩
  · have hsu : ∀ w, Ctr Tryz.prog 76 [.int .i64 (bs.length : Int)] w (fun v w' => v = .bool true ∧ Ext w w') := fun w => should_spec.mono fun v w' ⟨a1, a2⟩ => ⟨by rw [a1, decide_eq_true (by omega)], a2⟩
    repeat' (first | (apply G_on; exact rfl; first | ((first | apply G1_assign | apply G1_move); exact rfl; exact rfl) | (apply G1_call (f := 76); exact rfl; exact rfl; exact rfl; exact hsu _; rintro _ w1 ⟨rfl, hx1⟩; refine ⟨(by first | exact .inl rfl | exact .inr (by assumption)), ?_⟩) | (apply G1_call (f := 77); exact rfl; exact rfl; exact rfl; exact mkset_spec; rintro _ w2 ⟨rfl, hx2⟩; refine ⟨(by first | exact .inl rfl | exact .inr (by assumption)), ?_⟩) | (apply G1_seql; exact rfl; exact rfl; exact rfl) | (apply G1_len; exact T.s22; exact rfl; exact rfl) | (apply G1_eql; exact rfl; exact rfl; exact rfl) | (apply G1_extract; exact rfl; exact rfl; exact rfl) | (apply G1_slen; exact T.str9; exact rfl; exact rfl)) | apply G_nil | apply Post_next | apply W_seq | apply W_region | (apply W_cond_true; exact rfl) | (apply W_cond_false; exact rfl) | (apply W_cond_dec; exact rfl; all_goals (intro h; try (exfalso; omega))) | apply W_skip)
    apply G_on; exact rfl; apply G1_alloc; exact zrSet; exact rfl; exact rfl; intro a3 w3 ha3 hA3 hx3 hs3
    replace hA3 : Blk w3.heap a3 140 (setC 0) := hA3
    skip
    apply G_on; exact rfl
    apply G1_storeB (m := 0) (vs := setC 2); exact T.z140; exact rfl; exact rfl; exact hA3; exact rfl; (simp [setC]); (simp [setC]); (intro v hv; simp only [setC, List.mem_map] at hv; obtain ⟨i, _, rfl⟩ := hv; rfl); exact rfl; exact .inl rfl; exact rfl
    intro w4 hA4 hg4 hs4
    replace hA4 : Blk w4.heap a3 140 (setC 2) := (by kernel_rfl : ((setC 0).take 0 ++ setC 2 ++ (setC 0).drop (0 + (setC 2).length)) = setC 2) ▸ hA4
    have hx4 : Ext w w4 := ((hx1.trans hx2).trans hx3).own hg4 (fun k hk => by injection hk; have := (hx1.trans hx2).size; omega)
    repeat' (first | (apply G_on; exact rfl; first | ((first | apply G1_assign | apply G1_move); exact rfl; exact rfl) | (apply G1_len; exact T.s22; exact rfl; exact rfl)) | apply G_nil | apply Post_next | apply W_seq | apply W_region | (apply W_cond_true; exact rfl) | apply W_block)
    refine W_loop (ι := Nat) (fun k => [(7, .pointer (some (adr (bx a3) 0))), (60, .slice p bs.length c), (61, .int .i64 (bs.length : Int)), (62, .int .i64 (k : Int))]) (fun k w' => Ext w4 w' ∧ k ≤ bs.length ∧ ∀ b ∈ bs.take k, isBr b = false) (fun k => bs.length - k) 0 ⟨rfl, rfl, rfl, rfl, trivial⟩ ⟨(by repeat first | assumption | exact Ext.rfl' | apply Ext.drew | apply Ext.alloc | refine Ext.trans ?_ (by assumption)), Nat.zero_le _, by simp⟩ ?_
    rintro k w5 ⟨hx5, hk, hn⟩
    have hx05 := hx4.trans hx5
    have hC5 := hC.ext hx05
    have hA5 := hA4.ext hx5
    by_cases hlt : k < bs.length
    · obtain ⟨x, hq⟩ := get_some hlt
      have hib := isBr_of x
      repeat' (first | (apply G_on; exact rfl; first | ((first | apply G1_assign | apply G1_move); exact rfl; exact rfl) | (apply G1_call (f := 78); exact rfl; exact rfl; exact rfl; exact contains_spec (k := 2) (c := x) hA5; rintro _ w6 ⟨rfl, hx6⟩; refine ⟨(by first | exact .inl rfl | exact .inr (by assumption)), ?_⟩) | (apply G1_indexAddrN; exact T.s22; exact rfl; exact rfl; (first | assumption | exact Sl.ok (by assumption) | exact (Own.sl (by assumption)).ok); omega; exact rfl) | (apply G1_loadEl1; exact T.p5; exact rfl; assumption; assumption; exact rfl; exact rfl; exact rfl) | (apply G1_lss; exact rfl; exact rfl; exact rfl) | (apply G1_add; exact rfl; exact rfl; omega; omega; exact rfl)) | apply G_nil | apply Post_next | apply W_seq | apply W_region | (apply W_cond_dec; exact rfl; all_goals (intro h; try (exfalso; omega))) | (apply W_cond; exact rfl; all_goals intro h) | apply W_skip | apply W_ret | apply W_block | apply Post_then_ret | apply Post_block_ret | apply Post_block_normal)
      · refine Post_ret Tryz.results41 ⟨_, _, rfl, rfl, rfl⟩ ?_
        exact ⟨by rw [brI_at hq (by rw [hib]; exact h) hn]; rfl, (by repeat first | assumption | exact Ext.rfl' | apply Ext.drew | apply Ext.alloc | refine Ext.trans ?_ (by assumption))⟩
      · exact Post_round (k + 1) ⟨rfl, rfl, rfl, rfl, trivial⟩ ⟨(by repeat first | assumption | exact Ext.rfl' | apply Ext.drew | apply Ext.alloc | refine Ext.trans ?_ (by assumption)), by omega, no_snoc hq (by rw [hib]; exact h) hn⟩ (by omega)
    · have hk' : k = bs.length := by omega
      subst hk'
      rw [List.take_of_length_le (Nat.le_refl _)] at hn
      repeat' (first | (apply G_on; exact rfl; first | (apply G1_assign; exact rfl; exact rfl) | (apply G1_lss; exact rfl; exact rfl; exact rfl)) | apply G_nil | apply Post_next | apply W_seq | apply W_region | (apply W_cond_dec; exact rfl; all_goals (intro h; try (exfalso; omega))) | apply W_exit | apply W_ret | apply Post_then_ret | apply Post_then_exit | apply Post_block_exit)
      refine Post_ret Tryz.results41 ⟨_, _, rfl, rfl, rfl⟩ ?_
      exact ⟨by rw [brI_no hn]; rfl, (by repeat first | assumption | exact Ext.rfl' | apply Ext.drew | apply Ext.alloc | refine Ext.trans ?_ (by assumption))⟩
end Go.Proofs.YtipbakiecocioaaGreatDoor

/- Rules for bytes: a string copied into a row of bytes; bits of bytes. -/
namespace Go.V
open Go.RowKit
/-- xs with bs in the place of as many from o on -/
def over (xs : List UInt8) (o : Nat) (bs : List UInt8) : List UInt8 := xs.take o ++ bs ++ xs.drop (o + bs.length)
theorem over_length {xs bs : List UInt8} {o : Nat} (h : o + bs.length ≤ xs.length) : (over xs o bs).length = xs.length := by
  unfold over; simp only [List.length_append, List.length_take, List.length_drop]; omega
section
variable {P : Program} {n : Nat} {ops : Array Oper} {dr : Nat × List Nat} {l : List Oper} {E : Env} {w : World} {K : Env → World → Prop}
variable {d : Option Nat} {ty : TypeId} {pos : String} {af : Array Edge} {g : Option (Nat × Bool)} {x y : Operand} {k k' : IntKind} {t t' u : TypeId} {a b by_ : Nat} {i j : Int} {p : Option Addr} {c : Nat}
theorem run_copyS {gb o dl dc : Nat} {T : Nat} {cur : List Value} (hu : SliceT P t u 1 by_) (hb : Blk w.heap gb T cur) (s : ByteArray) (hdl : s.size ≤ dl) (hfit : o + s.size ≤ cur.length) (ty : TypeId) :
    (Builtin.copy_ #[t, t'] ty #[.slice (some ⟨gb, o, none⟩) dl dc, .string s]).run P w = .ok (goInt s.size) (w.setRow gb (cur.take o ++ byteCells s ++ cur.drop (o + s.size)).toArray) := by
  obtain ⟨hu1, inf, z, hi, hs1, hb1, hz, hz2⟩ := hu
  have hst := run_storeCells_at P gb o T (byteCells s) 0 cur.toArray w hb (by rw [byteCells_length]; simpa using hfit) (fun u hu => by rw [byteCells_flat] at hu; exact flat_one eByte _ u hu)
  simp only [Nat.add_zero, byteCells_length] at hst
  have hmin : Nat.min s.size dl = s.size := by show min s.size dl = _; omega
  simp [Builtin.copy_, run_underlying hu1, Builtin.lenOf, sizeOf, typeInfo, hi, hs1, hmin, firstCells_string, hst]
/-- copy(xs[o:], s), where it has room -/
theorem G1_copyS {B o dl dc : Nat} {xs : List UInt8} {s : ByteArray} {q : Option Addr} (hu : SliceT P t u 1 by_) (hx : E.look x = some (.slice q dl dc)) (hy : E.look y = some (.string s)) (hown : Own w B u eByte p c xs) (hq : q = subp p c o 1) (ho : o < c) (hne : 0 < xs.length) (hdl : s.size ≤ dl) (hfit : o + s.size ≤ xs.length) (hB : B ≤ w.heap.size)
    (he : effects P dr.1 ⟨d, .call ⟨.builtin .copy, #[x, y], #[t, t']⟩, ty, pos, af, g⟩ = true) (hw : writes dr.1 ⟨d, .call ⟨.builtin .copy, #[x, y], #[t, t']⟩, ty, pos, af, g⟩ = true) (hd : dstOk n d = true)
    (h : ∀ w', App w w' B u eByte p p c (over xs o s.data.toList) → w'.heap.size = w.heap.size → G P n ops dr l (E.put d (.int .i64 (s.size : Nat))) w' K) : G1 P n ops dr ⟨d, .call ⟨.builtin .copy, #[x, y], #[t, t']⟩, ty, pos, af, g⟩ l E w K := by
  obtain ⟨gb, cur, rfl, hbg, hblk, hcl, hcm, hnc, htake⟩ := hown.toBlk (hown.some_of_pos hne)
  rw [subp_bx ho, Nat.mul_one] at hq
  subst hq
  have hsz : eByte.sz = 1 := rfl
  rw [hsz, Nat.mul_one] at hcl htake
  have hcur : o + s.size ≤ cur.length := by omega
  have hr := run_copyS (t' := t') (dl := dl) (dc := dc) (o := o) hu hblk s hdl hcur ty
  refine G1_eff _ (w.setRow gb (cur.take o ++ byteCells s ++ cur.drop (o + s.size)).toArray) he hd (fun a ha => by simp [execOp, resolve, invoke, builtin, ha.eval hx, ha.eval hy, hr, goInt]; try rfl) (.inl hw) (h _ ?_ (by simp))
  have hsl : s.data.toList.length = s.size := by rw [Array.length_toList]; rfl
  have hov : (over xs o s.data.toList).length = xs.length := over_length (by rw [hsl]; exact hfit)
  refine ⟨Own.ofBlk (cur := cur.take o ++ byteCells s ++ cur.drop (o + s.size)) hbg (by unfold Blk; exact setRow_heap w gb _ _ u (0, 0) hblk) ?_ hcm (by rw [hov]; exact hnc) ?_, setRow_grown w gb _, by unfold NewP; exact .inl rfl, by simpa using hB⟩
  · rw [hsz]
    simp only [List.length_append, List.length_take, List.length_drop, byteCells_length]
    omega
  · rw [hov, hsz, Nat.mul_one]
    unfold over
    rw [List.flatMap_append, List.flatMap_append, ← byteCells_flat, hsl]
    have hfl : ∀ l : List UInt8, (l.flatMap eByte.enc).length = l.length := fun l => by rw [flat_len, hsz, Nat.mul_one]
    have hsplit : ∀ m, (xs.flatMap eByte.enc) = (xs.take m).flatMap eByte.enc ++ (xs.drop m).flatMap eByte.enc := fun m => by rw [← List.flatMap_append, List.take_append_drop]
    have e1 : (xs.take o).flatMap eByte.enc = cur.take o := by
      have : (cur.take xs.length).take o = (xs.flatMap eByte.enc).take o := by rw [htake]
      rw [List.take_take, Nat.min_eq_left (by omega), hsplit o, List.take_left' (by rw [hfl, List.length_take]; omega)] at this
      exact this.symm
    have e2 : (xs.drop (o + s.size)).flatMap eByte.enc = (cur.drop (o + s.size)).take (xs.length - (o + s.size)) := by
      have : (cur.take xs.length).drop (o + s.size) = (xs.flatMap eByte.enc).drop (o + s.size) := by rw [htake]
      rw [List.drop_take, hsplit (o + s.size), List.drop_left' (by rw [hfl, List.length_take]; omega)] at this
      exact this.symm
    rw [e1, e2, List.take_append, List.take_of_length_le (by simp only [List.length_append, List.length_take, byteCells_length]; omega)]
    congr 2
    simp only [List.length_append, List.length_take, byteCells_length]
    omega
theorem G1_orU8 {r : Nat} (hx : E.look x = some (.int .u8 i)) (hy : E.look y = some (.int .u8 j)) (hi : i = (a : Int)) (hj : j = (b : Int)) (ha : a < 2 ^ 8) (hb : b < 2 ^ 8) (hr : a ||| b = r) (hd : dstOk n d = true)
    (h : G P n ops dr l (E.put d (.int .u8 (r : Int))) w K) : G1 P n ops dr ⟨d, .binOp .or t x y t', ty, pos, af, g⟩ l E w K := by
  subst hi hj hr
  exact G1_quiet _ hd (fun ac hac w' _ => by
    have e : Op.intBits .or .u8 (a : Int) (b : Int) = pure (.int .u8 ((a ||| b : Nat) : Int)) := by
      show (pure (Value.int .u8 (IntKind.u8.wrap ((BitVec.ofInt 8 (a : Int) ||| BitVec.ofInt 8 (b : Int)).toNat : Int))) : Sem Value) = _
      rw [BitVec.toNat_or, ofInt_nat ha, ofInt_nat hb, wrap_u8n (Nat.or_lt_two_pow ha hb)]
    simp [execOp, hac.eval hx, hac.eval hy, eqGuard, binOp, e]) h
theorem G1_andU8 {r : Nat} (hx : E.look x = some (.int .u8 i)) (hy : E.look y = some (.int .u8 j)) (hi : i = (a : Int)) (hj : j = (b : Int)) (ha : a < 2 ^ 8) (hb : b < 2 ^ 8) (hr : a &&& b = r) (hd : dstOk n d = true)
    (h : G P n ops dr l (E.put d (.int .u8 (r : Int))) w K) : G1 P n ops dr ⟨d, .binOp .and t x y t', ty, pos, af, g⟩ l E w K := by
  subst hi hj hr
  exact G1_quiet _ hd (fun ac hac w' _ => by
    have e : Op.intBits .and .u8 (a : Int) (b : Int) = pure (.int .u8 ((a &&& b : Nat) : Int)) := by
      show (pure (Value.int .u8 (IntKind.u8.wrap ((BitVec.ofInt 8 (a : Int) &&& BitVec.ofInt 8 (b : Int)).toNat : Int))) : Sem Value) = _
      rw [BitVec.toNat_and, ofInt_nat ha, ofInt_nat hb, wrap_u8n (Nat.and_lt_two_pow _ hb)]
    simp [execOp, hac.eval hx, hac.eval hy, eqGuard, binOp, e]) h
theorem G1_andNotU8 {r : Nat} (hx : E.look x = some (.int .u8 i)) (hy : E.look y = some (.int .u8 j)) (hr : IntKind.u8.wrap ((BitVec.ofInt 8 i &&& ~~~ BitVec.ofInt 8 j).toNat : Int) = (r : Int)) (hd : dstOk n d = true)
    (h : G P n ops dr l (E.put d (.int .u8 (r : Int))) w K) : G1 P n ops dr ⟨d, .binOp .andNot t x y t', ty, pos, af, g⟩ l E w K := by
  exact G1_quiet _ hd (fun ac hac w' _ => by
    have e : Op.intBits .andNot .u8 i j = pure (.int .u8 (r : Int)) := by
      show (pure (Value.int .u8 (IntKind.u8.wrap ((BitVec.ofInt 8 i &&& ~~~ BitVec.ofInt 8 j).toNat : Int))) : Sem Value) = _
      rw [hr]
    simp [execOp, hac.eval hx, hac.eval hy, eqGuard, binOp, e]) h
theorem G1_shlU8 {c : Nat} (hx : E.look x = some (.int .u8 1)) (hy : E.look y = some (.int k' j)) (hj : j = (c : Int)) (hc : c < 8) (hd : dstOk n d = true)
    (h : G P n ops dr l (E.put d (.int .u8 ((2 ^ c : Nat) : Int))) w K) : G1 P n ops dr ⟨d, .binOp .shl t x y t', ty, pos, af, g⟩ l E w K := by
  subst hj
  refine G1_shl hx hy (by omega) hd ?_
  have e : IntKind.u8.wrap ((1 : Int) * 2 ^ min (c : Int).toNat IntKind.u8.bits) = ((2 ^ c : Nat) : Int) := by
    have e1 : min (c : Int).toNat IntKind.u8.bits = c := by
      have : IntKind.u8.bits = 8 := rfl
      rw [this]; simp; omega
    rw [e1, Int.one_mul]
    have e2 : (2 : Int) ^ c = ((2 ^ c : Nat) : Int) := by push_cast; rfl
    rw [e2, wrap_u8n (Nat.pow_lt_pow_right (by decide) hc)]
  rw [e]; exact h
end
end Go.V

/- Rules for numbers that are divided, bytes made strings, rows made. -/
namespace Go.V
section
variable {P : Program} {n : Nat} {ops : Array Oper} {dr : Nat × List Nat} {l : List Oper} {E : Env} {w : World} {K : Env → World → Prop}
variable {d : Option Nat} {ty : TypeId} {pos : String} {af : Array Edge} {g : Option (Nat × Bool)} {x y : Operand} {k k' : IntKind} {t t' u : TypeId} {a b by_ : Nat} {i j : Int} {p : Option Addr} {c : Nat}
theorem G1_quoI {c : Nat} (hx : E.look x = some (.int .i64 i)) (hy : E.look y = some (.int .i64 j)) (hi : i = (a : Int)) (hj : j = (c : Int)) (ha : a ≤ 9223372036854775807) (hc : 0 < c) (hd : dstOk n d = true)
    (h : G P n ops dr l (E.put d (.int .i64 ((a / c : Nat) : Int))) w K) : G1 P n ops dr ⟨d, .binOp .quo t x y t', ty, pos, af, g⟩ l E w K := by
  subst hi hj
  refine G1_quo hx hy (by omega) hd ?_
  have e : IntKind.i64.wrap ((a : Int).tdiv (c : Int)) = ((a / c : Nat) : Int) := by
    rw [Int.tdiv_eq_ediv_of_nonneg (by omega)]
    have : ((a : Int) / (c : Int)) = ((a / c : Nat) : Int) := by push_cast; rfl
    have h2 : a / c ≤ a := Nat.div_le_self _ _
    rw [this]
    generalize a / c = q at h2 ⊢
    rw [wrap_i64 (by omega) (by omega)]
  rw [e]; exact h
theorem G1_remI {c : Nat} (hx : E.look x = some (.int .i64 i)) (hy : E.look y = some (.int .i64 j)) (hi : i = (a : Int)) (hj : j = (c : Int)) (hc : 0 < c) (hd : dstOk n d = true)
    (h : G P n ops dr l (E.put d (.int .i64 ((a % c : Nat) : Int))) w K) : G1 P n ops dr ⟨d, .binOp .rem t x y t', ty, pos, af, g⟩ l E w K := by
  subst hi hj
  refine G1_rem hx hy (by omega) hd ?_
  have e : ((a : Int).tmod (c : Int)) = ((a % c : Nat) : Int) := by
    rw [Int.tmod_eq_emod_of_nonneg (by omega)]; push_cast; rfl
  rw [e]; exact h
/-- the rest, told by what is known of it -/
theorem G1_remE {r : Int} (hx : E.look x = some (.int k i)) (hy : E.look y = some (.int k j)) (h0 : j ≠ 0) (hr : i.tmod j = r) (hd : dstOk n d = true)
    (h : G P n ops dr l (E.put d (.int k r)) w K) : G1 P n ops dr ⟨d, .binOp .rem t x y t', ty, pos, af, g⟩ l E w K := by
  subst hr; exact G1_rem hx hy h0 hd h
theorem G1_toStringL {bs : List UInt8} {dq : Nat} {m : Nat} (hu : SliceT P t u 1 by_) (hi : IntT P u .u8) (hk : StrT P t') (hx : E.look x = some (.slice p m c)) (hm : m = bs.length) (hs : Sl w.heap eByte p c bs) (hd : dstOk n d = true)
    (h : G P n ops (dq, []) l (E.put d (.string (mkStr bs))) w K) : G1 P n ops (dq, []) ⟨d, .convert t t' x, ty, pos, af, g⟩ l E w K := by
  subst hm; exact G1_toString hu hi hk hx hs hd h
theorem G1_makeJ {α : Type} {sz m : Nat} (e : Enc α) (el : α) {zv : Value} (hu : SliceT P t u sz by_) (hx : E.look x = some (.int k i)) (hy : E.look y = some (.int k' i)) (hi : i = (m : Int)) (hsz : e.sz = sz) (hzv : ZeroT P u zv) (hel : zv.cells.toList = e.enc el) (h1 : by_ * m ≤ 281474976710656) (h2 : m ≤ 9223372036854775807)
    (he : effects P dr.1 ⟨d, .makeSlice t x y, ty, pos, af, g⟩ = true) (hd : dstOk n d = true)
    (h : ∀ p' w', Own w' w.heap.size u e p' m (List.replicate m el) → Ext w w' → w'.heap.size = w.heap.size + 1 → G P n ops dr l (E.put d (.slice p' m m)) w' K) :
    G1 P n ops dr ⟨d, .makeSlice t x y, ty, pos, af, g⟩ l E w K := by
  subst hi
  refine G1_makeN e el hu hx hy hsz hzv hel (by omega) (by have := Int.ofNat_le.2 h1; rw [Int.natCast_mul] at this; exact this) (by omega) he hd (fun p' w' h3 h4 h5 => ?_)
  rw [List.length_replicate, Int.toNat_natCast]
  rw [Int.toNat_natCast] at h3
  exact h p' w' h3 h4 h5
end
/-- the bit with number m of s -/
def bitP (s : ByteArray) (m : Nat) : Int := if m / 8 < s.size ∧ (bget s (m / 8)).toNat &&& 2 ^ (7 - m % 8) ≠ 0 then 1 else 0
end Go.V

/- num.Parse at every string; the document's Print and Parse. -/
namespace Go.Proofs.YtipbakiecocioaaGreatDoor
open Go.V
attribute [local irreducible] Blk Own hcell IntT SliceT PlainT AggT SizeT StrT FieldT ZeroT EqT ArrT
def Errs (w : World) : Prop := ∃ t1 p1 t2 p2, w.var? Tryz.prog "strconv.ErrSyntax" = some #[.iface t1 p1] ∧ w.var? Tryz.prog "strconv.ErrRange" = some #[.iface t2 p2]
theorem Errs.ext {w w' : World} (h : Errs w) (hx : Ext w w') : Errs w' := by
  obtain ⟨t1, p1, t2, p2, h1, h2⟩ := h
  exact ⟨t1, p1, t2, p2, var_ext h1 hx, var_ext h2 hx⟩
theorem pi_bad {s : ByteArray} {w : World} (hs : s.size ≤ 1000000) (hno : ∀ v, Lib.parseIntB 64 s.data.toList ≠ .ok v) (hE : Errs w) : Ctr Tryz.prog 81 [.string s, .int .i64 10, .int .i64 64] w (fun r w' => ∃ v t p, r = .tuple #[.int .i64 v, .iface t p] ∧ Ext w w') := by
  obtain ⟨t1, p1, t2, p2, h1, h2⟩ := hE
  unfold Ctr
  refine ⟨⟨Tryz.f81, Tryz.func81, by decide, rfl⟩, ?_⟩
  rcases hp : Lib.parseIntB 64 s.data.toList with v | _ | _
  · exact absurd hp (hno v)
  · exact Calls.mono (Any.strconv_ParseInt_10_at64_syntax_var Tryz.layPI s (by omega) hp t1 p1 w h1) fun e w' ⟨N, he, _, _, hb⟩ => ⟨_, he, ⟨_, _, _, rfl, hb⟩⟩
  · exact Calls.mono (Any.strconv_ParseInt_10_at64_range_var Tryz.layPI s (by omega) hp t2 p2 w h2) fun e w' ⟨N, he, _, _, hb⟩ => ⟨_, he, ⟨_, _, _, rfl, hb⟩⟩
theorem nparse_yes {s : ByteArray} {n : Int} {w : World} (h : IsNum s n) (hT : Pow w) : Ctr Tryz.prog 44 [.string s] w (fun r w' => r = .tuple #[.int .i64 n, .bool true] ∧ Ext w w') := by
  obtain ⟨hf, rfl⟩ := h
  exact parse_ok (itoa_size hf) (by rw [itoaB_list]; exact parse_itoa hf) hf.1 hf.2 rfl hT
theorem nparse_nb {s : ByteArray} {w : World} (hno : ∀ n, ¬ IsNum s n) (hT : Pow w) (hE : Errs w) : Ctr Tryz.prog 44 [.string s] w (fun r w' => r = .tuple #[.int .i64 0, .bool false] ∧ Ext w w') := by
  refine Ctr_of Tryz.func44 Tryz.ntmps44 rfl rfl rfl ?_
  by_cases hok : ∃ v, Lib.parseIntB 64 s.data.toList = .ok v
  · obtain ⟨v, hp⟩ := hok
    have hfv := parse_fit hp
    have hne : ¬ itoaB v = s := fun he => hno v ⟨hfv, he⟩
    repeat' (first | (apply G_on; exact rfl; first | ((first | apply G1_assign | apply G1_move); exact rfl; exact rfl) | (apply G1_call (f := 81); exact rfl; exact rfl; exact rfl; exact pi_ok (by omega) hp; rintro _ w2 ⟨rfl, hx2⟩; refine ⟨(by first | exact .inl rfl | exact .inr (by assumption)), ?_⟩) | (apply G1_errNil; exact Tryz.underlying147; exact rfl; exact rfl) | (apply G1_call (f := 82); exact rfl; exact rfl; exact rfl; exact print_spec hfv.1 hfv.2 (TabIs.ext hT hx2); rintro _ w3 ⟨rfl, hx3⟩; refine ⟨(by first | exact .inl rfl | exact .inr (by assumption)), ?_⟩) | (apply G1_slen; exact T.str9; exact rfl; exact rfl) | ((first | apply G1_gtr | apply G1_extract | apply G1_sneq); exact rfl; exact rfl; exact rfl)) | apply G_nil | apply Post_next | apply W_seq | apply W_region | (apply W_cond_true; exact rfl) | (apply W_cond_false; exact rfl) | (apply W_cond_dec; exact rfl; all_goals (intro h; try (exfalso; omega))) | (apply W_cond; exact rfl; all_goals intro h) | (apply G_off; exact rfl; exact rfl) | ((fail_if_success (apply G_on; exact rfl)); apply G_split_dec; exact rfl; exact rfl; all_goals (intro h; try (exfalso; omega))) | ((fail_if_success (apply G_on; exact rfl)); apply G_split; exact rfl; exact rfl; all_goals intro h) | apply W_skip | apply W_exit | apply W_ret | apply W_block | apply Post_then_ret | apply Post_block_ret | apply Post_then_exit | apply Post_block_exit | (apply Post_block_other; exact rfl) | apply Post_block_normal)
    all_goals try (exfalso; exact hne (by first | assumption | simpa using h); done)
    all_goals
      refine Post_ret Tryz.results44 ⟨_, _, rfl, rfl, _, _, rfl, rfl, rfl⟩ ?_
      exact ⟨rfl, (by repeat first | assumption | exact Ext.rfl' | apply Ext.drew | apply Ext.alloc | refine Ext.trans ?_ (by assumption))⟩
  · have hb : ∀ v, Lib.parseIntB 64 s.data.toList ≠ .ok v := fun v hv => hok ⟨v, hv⟩
    repeat' (first | (apply G_on; exact rfl; first | ((first | apply G1_assign | apply G1_move); exact rfl; exact rfl) | (apply G1_call (f := 81); exact rfl; exact rfl; exact rfl; exact pi_bad (by omega) hb hE; rintro _ w2 ⟨v, t, p, rfl, hx2⟩; refine ⟨(by first | exact .inl rfl | exact .inr (by assumption)), ?_⟩) | (apply G1_errNot; exact Tryz.underlying147; exact rfl; exact rfl) | (apply G1_slen; exact T.str9; exact rfl; exact rfl) | ((first | apply G1_gtr | apply G1_extract | apply G1_sneq); exact rfl; exact rfl; exact rfl)) | apply G_nil | apply Post_next | apply W_seq | apply W_region | (apply W_cond_true; exact rfl) | (apply W_cond_false; exact rfl) | (apply W_cond_dec; exact rfl; all_goals (intro h; try (exfalso; omega))) | (apply W_cond; exact rfl; all_goals intro h) | (apply G_off; exact rfl; exact rfl) | ((fail_if_success (apply G_on; exact rfl)); apply G_split_dec; exact rfl; exact rfl; all_goals (intro h; try (exfalso; omega))) | ((fail_if_success (apply G_on; exact rfl)); apply G_split; exact rfl; exact rfl; all_goals intro h) | apply W_skip | apply W_exit | apply W_ret | apply W_block | apply Post_then_ret | apply Post_block_ret | apply Post_then_exit | apply Post_block_exit | (apply Post_block_other; exact rfl) | apply Post_block_normal)
    all_goals
      refine Post_ret Tryz.results44 ⟨_, _, rfl, rfl, _, _, rfl, rfl, rfl⟩ ?_
      exact ⟨rfl, (by repeat first | assumption | exact Ext.rfl' | apply Ext.drew | apply Ext.alloc | refine Ext.trans ?_ (by assumption))⟩
theorem nparse_no {s : ByteArray} {w : World} (hno : ∀ n, ¬ IsNum s n) (_ : s.size ≤ 1000000) (hT : Pow w) (hE : Errs w) : Ctr Tryz.prog 44 [.string s] w (fun r w' => r = .tuple #[.int .i64 0, .bool false] ∧ Ext w w') := nparse_nb hno hT hE
end Go.Proofs.YtipbakiecocioaaGreatDoor
