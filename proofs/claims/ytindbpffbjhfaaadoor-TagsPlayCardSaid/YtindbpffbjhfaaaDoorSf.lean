/-
  DERIVED: THE SHELF's CONTRACTS AT THIS DUMP, IN PLAIN WORDS (tools/lay-plain.mjs out of 'TrydShelf.lean', which tools/lay-shelf.mjs wrote): THE SAME DECLARATIONS UNDER THE SAME NAMES: 'import', 'namespace', 'open', 'def', 'theorem' AND NOTHING ELSE: no command of the shelf's: FOR A HAND-IN. Each laying: the table of numbers ('.._ren') and one theorem, a field a fact of the dump's own or the kernel's comparison; each contract: ONE APPLICATION.
-/
import Derived.Shelf.Strings.Repeat
import Derived.Test.YtindbpffbjhfaaaDoorProg
namespace Go.Proofs
open Go.Shelf
def Tryd.lays105_ren : Go.Shelf.Ren := ⟨fun | 105 => 170 | 212 => 206 | 99 => 207 | 165 => 208 | 166 => 209 | 170 => 210 | 169 => 120 | 263 => 225 | 264 => 226 | 206 => 227 | 240 => 185 | 241 => 228 | 276 => 218 | 277 => 231 | n => n, fun | 9 => 9 | 3 => 3 | 4 => 4 | 20 => 20 | 0 => 0 | 46 => 293 | 109 => 294 | 5 => 5 | 72 => 219 | 76 => 222 | 51 => 311 | 146 => 312 | 53 => 76 | 148 => 314 | 70 => 217 | 37 => 215 | 75 => 221 | 127 => 280 | 164 => 303 | 80 => 224 | n => n, fun | n => n⟩
theorem Tryd.lays105 : Go.Proofs.Lays.n105 Tryd.prog Tryd.lays105_ren := {
  mixed := by kernel_rfl
  f99 := Tryd.func207.trans (congrArg some (by kernel_rfl))
  f105 := Tryd.func170.trans (congrArg some (by kernel_rfl))
  f165 := Tryd.func208.trans (congrArg some (by kernel_rfl))
  f166 := Tryd.func209.trans (congrArg some (by kernel_rfl))
  f169 := Tryd.func120.trans (congrArg some (by kernel_rfl))
  f170 := Tryd.func210.trans (congrArg some (by kernel_rfl))
  f206 := Tryd.func227.trans (congrArg some (by kernel_rfl))
  f212 := Tryd.func206.trans (congrArg some (by kernel_rfl))
  f240 := Tryd.func185.trans (congrArg some (by kernel_rfl))
  f241 := Tryd.func228.trans (congrArg some (by kernel_rfl))
  f263 := Tryd.func225.trans (congrArg some (by kernel_rfl))
  f264 := Tryd.func226.trans (congrArg some (by kernel_rfl))
  f276 := Tryd.func218.trans (congrArg some (by kernel_rfl))
  f277 := Tryd.func231.trans (congrArg some (by kernel_rfl))
  t0 := Tryd.underlying0
  a0 := Tryd.isAgg0
  z0 := Tryd.sizeOf0
  v0 := Tryd.zeroValue0
  t3 := Tryd.underlying3
  a3 := Tryd.isAgg3
  z3 := Tryd.sizeOf3
  v3 := Tryd.zeroValue3
  t4 := Tryd.underlying4
  a4 := Tryd.isAgg4
  z4 := Tryd.sizeOf4
  v4 := Tryd.zeroValue4
  t5 := Tryd.underlying5
  a5 := Tryd.isAgg5
  z5 := Tryd.sizeOf5
  v5 := Tryd.zeroValue5
  t9 := Tryd.underlying9
  a9 := Tryd.isAgg9
  z9 := Tryd.sizeOf9
  v9 := Tryd.zeroValue9
  t20 := Tryd.underlying20
  a20 := Tryd.isAgg20
  z20 := Tryd.sizeOf20
  v20 := Tryd.zeroValue20
  t37 := Tryd.underlying215
  a37 := Tryd.isAgg215
  z37 := Tryd.sizeOf215
  v37 := Tryd.zeroValue215
  t46 := Tryd.underlying293
  a46 := Tryd.isAgg293
  z46 := Tryd.sizeOf293
  v46 := Tryd.zeroValue293
  t51 := Tryd.underlying311
  a51 := Tryd.isAgg311
  z51 := Tryd.sizeOf311
  v51 := Tryd.zeroValue311
  t53 := Tryd.underlying76
  a53 := Tryd.isAgg76
  z53 := Tryd.sizeOf76
  v53 := Tryd.zeroValue76
  t70 := Tryd.underlying217
  a70 := Tryd.isAgg217
  z70 := Tryd.sizeOf217
  v70 := Tryd.zeroValue217
  t72 := Tryd.underlying219
  a72 := Tryd.isAgg219
  z72 := Tryd.sizeOf219
  v72 := Tryd.zeroValue219
  t75 := Tryd.underlying221
  a75 := Tryd.isAgg221
  z75 := Tryd.sizeOf221
  v75 := Tryd.zeroValue221
  t76 := Tryd.underlying222
  a76 := Tryd.isAgg222
  z76 := Tryd.sizeOf222
  v76 := Tryd.zeroValue222
  t109 := Tryd.underlying294
  a109 := Tryd.isAgg294
  z109 := Tryd.sizeOf294
  v109 := Tryd.zeroValue294
  t127 := Tryd.underlying280
  a127 := Tryd.isAgg280
  z127 := Tryd.sizeOf280
  v127 := Tryd.zeroValue280
  t146 := Tryd.underlying312
  a146 := Tryd.isAgg312
  z146 := Tryd.sizeOf312
  v146 := Tryd.zeroValue312
  t148 := Tryd.underlying314
  a148 := Tryd.isAgg314
  z148 := Tryd.sizeOf314
  v148 := Tryd.zeroValue314
  t164 := Tryd.underlying303
  a164 := Tryd.isAgg303
  z164 := Tryd.sizeOf303
  v164 := Tryd.zeroValue303 }
theorem Tryd.Builder_Extra_105 : Builder.Extra Tryd.prog Tryd.lays105_ren := {
  sizeBuilder := by kernel_rfl
  liesBuilder := by kernel_rfl
  t5 := Tryd.underlying5
  a5 := Tryd.isAgg5
  z5 := Tryd.sizeOf5
  v5 := Tryd.zeroValue5
  infoByte := by kernel_rfl
  cellsByte := by kernel_rfl
  sizeByte := by kernel_rfl
  neB5 := by decide }
open Go.RowKit Go.Lib in
/-- **strings.Repeat: count ≥ 0, the result within one allocation: count copies of s.** (LAID: no walk: one application.) -/
theorem Tryd.strings_Repeat (s : ByteArray) (c : Nat) (w : World) (hc : c ≤ 9223372036854775807) (hlen : s.size * c ≤ 140737488355328) :
    Calls Tryd.prog 170 #[.string s, .int .i64 c] w fun e w' => e = .returned (.string ⟨(Lib.repeatL s.data.toList c).toArray⟩) ∧ Below w.heap.size w w' := Any.strings_Repeat Tryd.lays105 Tryd.Builder_Extra_105 s c w hc hlen
end Go.Proofs
