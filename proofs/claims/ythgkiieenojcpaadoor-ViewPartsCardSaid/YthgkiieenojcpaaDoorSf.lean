/-
  DERIVED: THE SHELF's CONTRACTS AT THIS DUMP, IN PLAIN WORDS (tools/lay-plain.mjs out of 'TrydShelf.lean', which tools/lay-shelf.mjs wrote): THE SAME DECLARATIONS UNDER THE SAME NAMES: 'import', 'namespace', 'open', 'def', 'theorem' AND NOTHING ELSE: no command of the shelf's: FOR A HAND-IN. Each laying: the table of numbers ('.._ren') and one theorem, a field a fact of the dump's own or the kernel's comparison; each contract: ONE APPLICATION.
-/
import Derived.Shelf.Strings.Repeat
import Derived.Test.YthgkiieenojcpaaDoorProg
namespace Go.Proofs
open Go.Shelf
def Tryd.lays105_ren : Go.Shelf.Ren := ⟨fun | 105 => 53 | 212 => 124 | 99 => 125 | 165 => 104 | 166 => 105 | 170 => 126 | 169 => 106 | 263 => 156 | 264 => 157 | 206 => 158 | 240 => 152 | 241 => 153 | 276 => 164 | 277 => 165 | n => n, fun | 9 => 9 | 3 => 3 | 4 => 4 | 20 => 20 | 0 => 0 | 46 => 185 | 109 => 186 | 5 => 5 | 72 => 166 | 76 => 169 | 51 => 215 | 146 => 216 | 53 => 60 | 148 => 218 | 70 => 163 | 37 => 164 | 75 => 168 | 127 => 212 | 164 => 224 | 80 => 171 | n => n, fun | n => n⟩
theorem Tryd.lays105 : Go.Proofs.Lays.n105 Tryd.prog Tryd.lays105_ren := {
  mixed := by kernel_rfl
  f99 := Tryd.func125.trans (congrArg some (by kernel_rfl))
  f105 := Tryd.func53.trans (congrArg some (by kernel_rfl))
  f165 := Tryd.func104.trans (congrArg some (by kernel_rfl))
  f166 := Tryd.func105.trans (congrArg some (by kernel_rfl))
  f169 := Tryd.func106.trans (congrArg some (by kernel_rfl))
  f170 := Tryd.func126.trans (congrArg some (by kernel_rfl))
  f206 := Tryd.func158.trans (congrArg some (by kernel_rfl))
  f212 := Tryd.func124.trans (congrArg some (by kernel_rfl))
  f240 := Tryd.func152.trans (congrArg some (by kernel_rfl))
  f241 := Tryd.func153.trans (congrArg some (by kernel_rfl))
  f263 := Tryd.func156.trans (congrArg some (by kernel_rfl))
  f264 := Tryd.func157.trans (congrArg some (by kernel_rfl))
  f276 := Tryd.func164.trans (congrArg some (by kernel_rfl))
  f277 := Tryd.func165.trans (congrArg some (by kernel_rfl))
  t0 := Tryd.underlying0
  a0 := Tryd.isAgg0
  z0 := Tryd.sizeOf0
  v0 := Tryd.zeroValue0
  t3 := Tryd.underlying3
  a3 := Tryd.isAgg3
  z3 := Tryd.sizeOf3
  v3 := Tryd.zeroValue3
  t4 := Tryd.underlying4
  a4 := Tryd.isAgg4
  z4 := Tryd.sizeOf4
  v4 := Tryd.zeroValue4
  t5 := Tryd.underlying5
  a5 := Tryd.isAgg5
  z5 := Tryd.sizeOf5
  v5 := Tryd.zeroValue5
  t9 := Tryd.underlying9
  a9 := Tryd.isAgg9
  z9 := Tryd.sizeOf9
  v9 := Tryd.zeroValue9
  t20 := Tryd.underlying20
  a20 := Tryd.isAgg20
  z20 := Tryd.sizeOf20
  v20 := Tryd.zeroValue20
  t37 := Tryd.underlying164
  a37 := Tryd.isAgg164
  z37 := Tryd.sizeOf164
  v37 := Tryd.zeroValue164
  t46 := Tryd.underlying185
  a46 := Tryd.isAgg185
  z46 := Tryd.sizeOf185
  v46 := Tryd.zeroValue185
  t51 := Tryd.underlying215
  a51 := Tryd.isAgg215
  z51 := Tryd.sizeOf215
  v51 := Tryd.zeroValue215
  t53 := Tryd.underlying60
  a53 := Tryd.isAgg60
  z53 := Tryd.sizeOf60
  v53 := Tryd.zeroValue60
  t70 := Tryd.underlying163
  a70 := Tryd.isAgg163
  z70 := Tryd.sizeOf163
  v70 := Tryd.zeroValue163
  t72 := Tryd.underlying166
  a72 := Tryd.isAgg166
  z72 := Tryd.sizeOf166
  v72 := Tryd.zeroValue166
  t75 := Tryd.underlying168
  a75 := Tryd.isAgg168
  z75 := Tryd.sizeOf168
  v75 := Tryd.zeroValue168
  t76 := Tryd.underlying169
  a76 := Tryd.isAgg169
  z76 := Tryd.sizeOf169
  v76 := Tryd.zeroValue169
  t109 := Tryd.underlying186
  a109 := Tryd.isAgg186
  z109 := Tryd.sizeOf186
  v109 := Tryd.zeroValue186
  t127 := Tryd.underlying212
  a127 := Tryd.isAgg212
  z127 := Tryd.sizeOf212
  v127 := Tryd.zeroValue212
  t146 := Tryd.underlying216
  a146 := Tryd.isAgg216
  z146 := Tryd.sizeOf216
  v146 := Tryd.zeroValue216
  t148 := Tryd.underlying218
  a148 := Tryd.isAgg218
  z148 := Tryd.sizeOf218
  v148 := Tryd.zeroValue218
  t164 := Tryd.underlying224
  a164 := Tryd.isAgg224
  z164 := Tryd.sizeOf224
  v164 := Tryd.zeroValue224 }
theorem Tryd.Builder_Extra_105 : Builder.Extra Tryd.prog Tryd.lays105_ren := {
  sizeBuilder := by kernel_rfl
  liesBuilder := by kernel_rfl
  t5 := Tryd.underlying5
  a5 := Tryd.isAgg5
  z5 := Tryd.sizeOf5
  v5 := Tryd.zeroValue5
  infoByte := by kernel_rfl
  cellsByte := by kernel_rfl
  sizeByte := by kernel_rfl
  neB5 := by decide }
open Go.RowKit Go.Lib in
/-- **strings.Repeat: count ≥ 0, the result within one allocation: count copies of s.** (LAID: no walk: one application.) -/
theorem Tryd.strings_Repeat (s : ByteArray) (c : Nat) (w : World) (hc : c ≤ 9223372036854775807) (hlen : s.size * c ≤ 140737488355328) :
    Calls Tryd.prog 53 #[.string s, .int .i64 c] w fun e w' => e = .returned (.string ⟨(Lib.repeatL s.data.toList c).toArray⟩) ∧ Below w.heap.size w w' := Any.strings_Repeat Tryd.lays105 Tryd.Builder_Extra_105 s c w hc hlen
end Go.Proofs
