/-
 DERIVED: THE SHELF's CONTRACTS AT THIS DUMP, IN PLAIN WORDS (tools/lay-plain.mjs out of 'TrydShelf.lean', which tools/lay-shelf.mjs wrote): THE SAME DECLARATIONS UNDER THE SAME NAMES: 'import', 'namespace', 'open', 'def', 'theorem' AND NOTHING ELSE: no command of the shelf's: FOR A HAND-IN. Each laying: the table of numbers ('.._ren') and one theorem, a field a fact of the dump's own or the kernel's comparison; each contract: ONE APPLICATION.
-/
import Derived.Shelf.Strings.Builder1
import Derived.Shelf.Strconv.Itoa3
import Derived.Test.YtioijhpbedmeaaaGreatDoorProg
namespace Go.Proofs
open Go.Shelf
def Tryz.lays169_ren : Go.Shelf.Ren := ⟨fun | 169 => 107 | n => n, fun | 70 => 151 | 9 => 9 | 0 => 0 | 72 => 154 | 37 => 152 | 127 => 165 | 3 => 3 | 5 => 5 | n => n, fun | n => n⟩
theorem Tryz.lays169 : Go.Proofs.Lays.n169 Tryz.prog Tryz.lays169_ren := {
 mixed := by kernel_rfl
 f169 := Tryz.func107.trans (congrArg some (by kernel_rfl))
 t0 := Tryz.underlying0
 a0 := Tryz.isAgg0
 z0 := Tryz.sizeOf0
 v0 := Tryz.zeroValue0
 t3 := Tryz.underlying3
 a3 := Tryz.isAgg3
 z3 := Tryz.sizeOf3
 v3 := Tryz.zeroValue3
 t9 := Tryz.underlying9
 a9 := Tryz.isAgg9
 z9 := Tryz.sizeOf9
 v9 := Tryz.zeroValue9
 t37 := Tryz.underlying152
 a37 := Tryz.isAgg152
 z37 := Tryz.sizeOf152
 v37 := Tryz.zeroValue152
 t70 := Tryz.underlying151
 a70 := Tryz.isAgg151
 z70 := Tryz.sizeOf151
 v70 := Tryz.zeroValue151
 t72 := Tryz.underlying154
 a72 := Tryz.isAgg154
 z72 := Tryz.sizeOf154
 v72 := Tryz.zeroValue154
 t127 := Tryz.underlying165
 a127 := Tryz.isAgg165
 z127 := Tryz.sizeOf165
 v127 := Tryz.zeroValue165 }
theorem Tryz.Builder_Extra_169 : Builder.Extra Tryz.prog Tryz.lays169_ren := {
 sizeBuilder := by kernel_rfl
 liesBuilder := by kernel_rfl
 t5 := Tryz.underlying5
 a5 := Tryz.isAgg5
 z5 := Tryz.sizeOf5
 v5 := Tryz.zeroValue5
 infoByte := by kernel_rfl
 cellsByte := by kernel_rfl
 sizeByte := by kernel_rfl
 neB5 := by decide }
open Go.RowKit in
/-- (*strings.Builder).String: "String returns the accumulated string.": WHATEVER THE BUILDER HOLDS. (LAID: no walk: one application.) -/
theorem Tryz.Builder_String_any (B b : Nat) (l : List UInt8) (w : World) (h : Lib.IsBuilder 154 5 B b (Lib.byteCells l) w) (hBw : B ≤ w.heap.size) :
  Calls Tryz.prog 107 #[.pointer (some ⟨b, 0, none⟩)] w fun e w' => e = .returned (.string ⟨l.toArray⟩) ∧ Below B w w' := Any.Builder_String_any Tryz.lays169 Tryz.Builder_Extra_169 B b l w h hBw
def Tryz.lays171_ren : Go.Shelf.Ren := ⟨fun | 171 => 105 | 243 => 116 | 246 => 124 | 283 => 125 | 284 => 126 | 285 => 127 | 286 => 128 | 129 => 130 | 317 => 129 | 318 => 131 | 319 => 132 | 320 => 133 | 337 => 134 | 338 => 135 | n => n, fun | 3 => 3 | 9 => 9 | 2 => 2 | 4 => 4 | 171 => 171 | 0 => 0 | 53 => 172 | 37 => 152 | 5 => 5 | 173 => 175 | 212 => 179 | 51 => 180 | 20 => 20 | 213 => 181 | 46 => 162 | 232 => 184 | 233 => 185 | n => n, fun | 17 => 0 | 18 => 1 | 19 => 2 | n => n⟩
theorem Tryz.lays171 : Go.Proofs.Lays.n171 Tryz.prog Tryz.lays171_ren := {
 mixed := by kernel_rfl
 f129 := Tryz.func130.trans (congrArg some (by kernel_rfl))
 f171 := Tryz.func105.trans (congrArg some (by kernel_rfl))
 f243 := Tryz.func116.trans (congrArg some (by kernel_rfl))
 f246 := Tryz.func124.trans (congrArg some (by kernel_rfl))
 f283 := Tryz.func125.trans (congrArg some (by kernel_rfl))
 f284 := Tryz.func126.trans (congrArg some (by kernel_rfl))
 f285 := Tryz.func127.trans (congrArg some (by kernel_rfl))
 f286 := Tryz.func128.trans (congrArg some (by kernel_rfl))
 f317 := Tryz.func129.trans (congrArg some (by kernel_rfl))
 f318 := Tryz.func131.trans (congrArg some (by kernel_rfl))
 f319 := Tryz.func132.trans (congrArg some (by kernel_rfl))
 f320 := Tryz.func133.trans (congrArg some (by kernel_rfl))
 f337 := Tryz.func134.trans (congrArg some (by kernel_rfl))
 f338 := Tryz.func135.trans (congrArg some (by kernel_rfl))
 t0 := Tryz.underlying0
 a0 := Tryz.isAgg0
 z0 := Tryz.sizeOf0
 v0 := Tryz.zeroValue0
 t2 := Tryz.underlying2
 a2 := Tryz.isAgg2
 z2 := Tryz.sizeOf2
 v2 := Tryz.zeroValue2
 t3 := Tryz.underlying3
 a3 := Tryz.isAgg3
 z3 := Tryz.sizeOf3
 v3 := Tryz.zeroValue3
 t4 := Tryz.underlying4
 a4 := Tryz.isAgg4
 z4 := Tryz.sizeOf4
 v4 := Tryz.zeroValue4
 t5 := Tryz.underlying5
 a5 := Tryz.isAgg5
 z5 := Tryz.sizeOf5
 v5 := Tryz.zeroValue5
 t9 := Tryz.underlying9
 a9 := Tryz.isAgg9
 z9 := Tryz.sizeOf9
 v9 := Tryz.zeroValue9
 t20 := Tryz.underlying20
 a20 := Tryz.isAgg20
 z20 := Tryz.sizeOf20
 v20 := Tryz.zeroValue20
 t37 := Tryz.underlying152
 a37 := Tryz.isAgg152
 z37 := Tryz.sizeOf152
 v37 := Tryz.zeroValue152
 t46 := Tryz.underlying162
 a46 := Tryz.isAgg162
 z46 := Tryz.sizeOf162
 v46 := Tryz.zeroValue162
 t51 := Tryz.underlying180
 a51 := Tryz.isAgg180
 z51 := Tryz.sizeOf180
 v51 := Tryz.zeroValue180
 t53 := Tryz.underlying172
 a53 := Tryz.isAgg172
 z53 := Tryz.sizeOf172
 v53 := Tryz.zeroValue172
 t171 := Tryz.underlying171
 a171 := Tryz.isAgg171
 z171 := Tryz.sizeOf171
 v171 := Tryz.zeroValue171
 t173 := Tryz.underlying175
 a173 := Tryz.isAgg175
 z173 := Tryz.sizeOf175
 v173 := Tryz.zeroValue175
 t212 := Tryz.underlying179
 a212 := Tryz.isAgg179
 z212 := Tryz.sizeOf179
 v212 := Tryz.zeroValue179
 t213 := Tryz.underlying181
 a213 := Tryz.isAgg181
 z213 := Tryz.sizeOf181
 t232 := Tryz.underlying184
 a232 := Tryz.isAgg184
 z232 := Tryz.sizeOf184
 v232 := Tryz.zeroValue184
 t233 := Tryz.underlying185
 a233 := Tryz.isAgg185
 z233 := Tryz.sizeOf185
 v233 := Tryz.zeroValue185
 g17 := by kernel_rfl
 g18 := by kernel_rfl
 g19 := by kernel_rfl }
open Go.RowKit Go.Sort Go.Lib in
/-- THE ROAD WITHOUT THE TABLE: 0 <= i < 100: NO PREMISE ON THE WORLD, AND THE WORLD IS AS IT WAS: a row that keeps its argument in that range need list no table ('laid = []'). (LAID: no walk: one application.) -/
theorem Tryz.strconv_Itoa_small (i : Nat) (hi : i < 100) (w : World) :
  Calls Tryz.prog 105 #[.int .i64 i] w fun e w' => e = .returned (.string ⟨(Lib.decDigits i).toArray⟩) ∧ w' = w := Any.strconv_Itoa_small Tryz.lays171 i hi w
end Go.Proofs
