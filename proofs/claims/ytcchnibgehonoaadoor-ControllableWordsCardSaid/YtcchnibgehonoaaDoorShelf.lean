/-
 DERIVED: THE SHELF's CONTRACTS AT THIS DUMP, IN PLAIN WORDS (tools/lay-plain.mjs out of 'TrydShelf.lean', which tools/lay-shelf.mjs wrote): THE SAME DECLARATIONS UNDER THE SAME NAMES: 'import', 'namespace', 'open', 'def', 'theorem' AND NOTHING ELSE: no command of the shelf's: FOR A HAND-IN. Each laying: the table of numbers ('.._ren') and one theorem, a field a fact of the dump's own or the kernel's comparison; each contract: ONE APPLICATION.
-/
import Derived.Shelf.Strings.Builder1
import Derived.Shelf.Strconv.Itoa3
import Derived.Test.YtcchnibgehonoaaDoorProg
namespace Go.Proofs
open Go.Shelf
def Tryd.lays169_ren : Go.Shelf.Ren := ⟨fun | 169 => 109 | n => n, fun | 70 => 145 | 9 => 9 | 0 => 0 | 72 => 147 | 37 => 68 | 127 => 155 | 3 => 3 | 5 => 5 | n => n, fun | n => n⟩
theorem Tryd.lays169 : Go.Proofs.Lays.n169 Tryd.prog Tryd.lays169_ren := {
 mixed := by kernel_rfl
 f169 := Tryd.func109.trans (congrArg some (by kernel_rfl))
 t0 := Tryd.underlying0
 a0 := Tryd.isAgg0
 z0 := Tryd.sizeOf0
 v0 := Tryd.zeroValue0
 t3 := Tryd.underlying3
 a3 := Tryd.isAgg3
 z3 := Tryd.sizeOf3
 v3 := Tryd.zeroValue3
 t9 := Tryd.underlying9
 a9 := Tryd.isAgg9
 z9 := Tryd.sizeOf9
 v9 := Tryd.zeroValue9
 t37 := Tryd.underlying68
 a37 := Tryd.isAgg68
 z37 := Tryd.sizeOf68
 v37 := Tryd.zeroValue68
 t70 := Tryd.underlying145
 a70 := Tryd.isAgg145
 z70 := Tryd.sizeOf145
 v70 := Tryd.zeroValue145
 t72 := Tryd.underlying147
 a72 := Tryd.isAgg147
 z72 := Tryd.sizeOf147
 v72 := Tryd.zeroValue147
 t127 := Tryd.underlying155
 a127 := Tryd.isAgg155
 z127 := Tryd.sizeOf155
 v127 := Tryd.zeroValue155 }
theorem Tryd.Builder_Extra_169 : Builder.Extra Tryd.prog Tryd.lays169_ren := {
 sizeBuilder := by kernel_rfl
 liesBuilder := by kernel_rfl
 t5 := Tryd.underlying5
 a5 := Tryd.isAgg5
 z5 := Tryd.sizeOf5
 v5 := Tryd.zeroValue5
 infoByte := by kernel_rfl
 cellsByte := by kernel_rfl
 sizeByte := by kernel_rfl
 neB5 := by decide }
open Go.RowKit in
/-- (*strings.Builder).String: "String returns the accumulated string.": WHATEVER THE BUILDER HOLDS. (LAID: no walk: one application.) -/
theorem Tryd.Builder_String_any (B b : Nat) (l : List UInt8) (w : World) (h : Lib.IsBuilder 147 5 B b (Lib.byteCells l) w) (hBw : B ≤ w.heap.size) :
  Calls Tryd.prog 109 #[.pointer (some ⟨b, 0, none⟩)] w fun e w' => e = .returned (.string ⟨l.toArray⟩) ∧ Below B w w' := Any.Builder_String_any Tryd.lays169 Tryd.Builder_Extra_169 B b l w h hBw
def Tryd.lays171_ren : Go.Shelf.Ren := ⟨fun | 171 => 107 | 243 => 113 | 246 => 115 | 283 => 116 | 284 => 117 | 285 => 118 | 286 => 119 | 129 => 121 | 317 => 120 | 318 => 122 | 319 => 123 | 320 => 124 | 337 => 125 | 338 => 126 | n => n, fun | 3 => 3 | 9 => 9 | 2 => 2 | 4 => 4 | 171 => 159 | 0 => 0 | 53 => 160 | 37 => 68 | 5 => 5 | 173 => 163 | 212 => 166 | 51 => 167 | 20 => 20 | 213 => 168 | 46 => 142 | 232 => 171 | 233 => 172 | n => n, fun | 17 => 0 | 18 => 1 | 19 => 2 | n => n⟩
theorem Tryd.lays171 : Go.Proofs.Lays.n171 Tryd.prog Tryd.lays171_ren := {
 mixed := by kernel_rfl
 f129 := Tryd.func121.trans (congrArg some (by kernel_rfl))
 f171 := Tryd.func107.trans (congrArg some (by kernel_rfl))
 f243 := Tryd.func113.trans (congrArg some (by kernel_rfl))
 f246 := Tryd.func115.trans (congrArg some (by kernel_rfl))
 f283 := Tryd.func116.trans (congrArg some (by kernel_rfl))
 f284 := Tryd.func117.trans (congrArg some (by kernel_rfl))
 f285 := Tryd.func118.trans (congrArg some (by kernel_rfl))
 f286 := Tryd.func119.trans (congrArg some (by kernel_rfl))
 f317 := Tryd.func120.trans (congrArg some (by kernel_rfl))
 f318 := Tryd.func122.trans (congrArg some (by kernel_rfl))
 f319 := Tryd.func123.trans (congrArg some (by kernel_rfl))
 f320 := Tryd.func124.trans (congrArg some (by kernel_rfl))
 f337 := Tryd.func125.trans (congrArg some (by kernel_rfl))
 f338 := Tryd.func126.trans (congrArg some (by kernel_rfl))
 t0 := Tryd.underlying0
 a0 := Tryd.isAgg0
 z0 := Tryd.sizeOf0
 v0 := Tryd.zeroValue0
 t2 := Tryd.underlying2
 a2 := Tryd.isAgg2
 z2 := Tryd.sizeOf2
 v2 := Tryd.zeroValue2
 t3 := Tryd.underlying3
 a3 := Tryd.isAgg3
 z3 := Tryd.sizeOf3
 v3 := Tryd.zeroValue3
 t4 := Tryd.underlying4
 a4 := Tryd.isAgg4
 z4 := Tryd.sizeOf4
 v4 := Tryd.zeroValue4
 t5 := Tryd.underlying5
 a5 := Tryd.isAgg5
 z5 := Tryd.sizeOf5
 v5 := Tryd.zeroValue5
 t9 := Tryd.underlying9
 a9 := Tryd.isAgg9
 z9 := Tryd.sizeOf9
 v9 := Tryd.zeroValue9
 t20 := Tryd.underlying20
 a20 := Tryd.isAgg20
 z20 := Tryd.sizeOf20
 v20 := Tryd.zeroValue20
 t37 := Tryd.underlying68
 a37 := Tryd.isAgg68
 z37 := Tryd.sizeOf68
 v37 := Tryd.zeroValue68
 t46 := Tryd.underlying142
 a46 := Tryd.isAgg142
 z46 := Tryd.sizeOf142
 v46 := Tryd.zeroValue142
 t51 := Tryd.underlying167
 a51 := Tryd.isAgg167
 z51 := Tryd.sizeOf167
 v51 := Tryd.zeroValue167
 t53 := Tryd.underlying160
 a53 := Tryd.isAgg160
 z53 := Tryd.sizeOf160
 v53 := Tryd.zeroValue160
 t171 := Tryd.underlying159
 a171 := Tryd.isAgg159
 z171 := Tryd.sizeOf159
 v171 := Tryd.zeroValue159
 t173 := Tryd.underlying163
 a173 := Tryd.isAgg163
 z173 := Tryd.sizeOf163
 v173 := Tryd.zeroValue163
 t212 := Tryd.underlying166
 a212 := Tryd.isAgg166
 z212 := Tryd.sizeOf166
 v212 := Tryd.zeroValue166
 t213 := Tryd.underlying168
 a213 := Tryd.isAgg168
 z213 := Tryd.sizeOf168
 t232 := Tryd.underlying171
 a232 := Tryd.isAgg171
 z232 := Tryd.sizeOf171
 v232 := Tryd.zeroValue171
 t233 := Tryd.underlying172
 a233 := Tryd.isAgg172
 z233 := Tryd.sizeOf172
 v233 := Tryd.zeroValue172
 g17 := by kernel_rfl
 g18 := by kernel_rfl
 g19 := by kernel_rfl }
open Go.RowKit Go.Sort Go.Lib in
/-- THE ROAD WITHOUT THE TABLE: 0 <= i < 100: NO PREMISE ON THE WORLD, AND THE WORLD IS AS IT WAS: a row that keeps its argument in that range need list no table ('laid = []'). (LAID: no walk: one application.) -/
theorem Tryd.strconv_Itoa_small (i : Nat) (hi : i < 100) (w : World) :
  Calls Tryd.prog 107 #[.int .i64 i] w fun e w' => e = .returned (.string ⟨(Lib.decDigits i).toArray⟩) ∧ w' = w := Any.strconv_Itoa_small Tryd.lays171 i hi w
end Go.Proofs
