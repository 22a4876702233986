/- Contracts of the library at this program: laid by the shelf's tools, in plain words; its numbers are one seat's own. (nobase) -/
import Derived.Shelf.Strings.Builder1
import Derived.Shelf.Strings.Builder2
import Derived.Shelf.Strings.OnBuilder
import Derived.Shelf.Small.Strs
import Derived.Shelf.Strconv.Itoa0
import Derived.Shelf.Strconv.Itoa1
import Derived.Shelf.LaysM
import Derived.Shelf.Strconv.Itoa2
import Derived.Shelf.Strconv.Itoa3
import Derived.Shelf.LaysC
import Derived.Shelf.Strconv.AtoiAll
import Derived.Shelf.Strconv.ErrVarAll
import Derived.Shelf.Strings.Prefix
import Derived.Shelf.Strings.Split
import Derived.Test.YtgmlnbheceeklaaDoorProg
set_option linter.unusedVariables false
set_option linter.unusedSimpArgs false
set_option linter.unusedSectionVars false
namespace Go.Proofs
open Go.Shelf
def Tryd.lays156_ren : Go.Shelf.Ren := ⟨fun | 156 => 19 | 165 => 37 | 166 => 38 | 169 => 39 | 240 => 55 | 241 => 56 | 276 => 71 | 277 => 72 | n => n, fun | 31 => 35 | 9 => 9 | 3 => 3 | 4 => 4 | 0 => 0 | 20 => 20 | 72 => 63 | 76 => 53 | 70 => 61 | 37 => 38 | 75 => 52 | 127 => 74 | 164 => 87 | 5 => 5 | 80 => 65 | n => n, fun | n => n⟩
theorem Tryd.lays156 : Go.Proofs.Lays.n156 Tryd.prog Tryd.lays156_ren := {
  mixed := by kernel_rfl
  f156 := Tryd.func19.trans (congrArg some (by kernel_rfl))
  f165 := Tryd.func37.trans (congrArg some (by kernel_rfl))
  f166 := Tryd.func38.trans (congrArg some (by kernel_rfl))
  f169 := Tryd.func39.trans (congrArg some (by kernel_rfl))
  f240 := Tryd.func55.trans (congrArg some (by kernel_rfl))
  f241 := Tryd.func56.trans (congrArg some (by kernel_rfl))
  f276 := Tryd.func71.trans (congrArg some (by kernel_rfl))
  f277 := Tryd.func72.trans (congrArg some (by kernel_rfl))
  t0 := Tryd.underlying0
  a0 := Tryd.isAgg0
  z0 := Tryd.sizeOf0
  v0 := Tryd.zeroValue0
  t3 := Tryd.underlying3
  a3 := Tryd.isAgg3
  z3 := Tryd.sizeOf3
  v3 := Tryd.zeroValue3
  t4 := Tryd.underlying4
  a4 := Tryd.isAgg4
  z4 := Tryd.sizeOf4
  v4 := Tryd.zeroValue4
  t9 := Tryd.underlying9
  a9 := Tryd.isAgg9
  z9 := Tryd.sizeOf9
  v9 := Tryd.zeroValue9
  t20 := Tryd.underlying20
  a20 := Tryd.isAgg20
  z20 := Tryd.sizeOf20
  v20 := Tryd.zeroValue20
  t31 := Tryd.underlying35
  a31 := Tryd.isAgg35
  z31 := Tryd.sizeOf35
  v31 := Tryd.zeroValue35
  t37 := Tryd.underlying38
  a37 := Tryd.isAgg38
  z37 := Tryd.sizeOf38
  v37 := Tryd.zeroValue38
  t70 := Tryd.underlying61
  a70 := Tryd.isAgg61
  z70 := Tryd.sizeOf61
  v70 := Tryd.zeroValue61
  t72 := Tryd.underlying63
  a72 := Tryd.isAgg63
  z72 := Tryd.sizeOf63
  v72 := Tryd.zeroValue63
  t75 := Tryd.underlying52
  a75 := Tryd.isAgg52
  z75 := Tryd.sizeOf52
  v75 := Tryd.zeroValue52
  t76 := Tryd.underlying53
  a76 := Tryd.isAgg53
  z76 := Tryd.sizeOf53
  v76 := Tryd.zeroValue53
  t127 := Tryd.underlying74
  a127 := Tryd.isAgg74
  z127 := Tryd.sizeOf74
  v127 := Tryd.zeroValue74
  t164 := Tryd.underlying87
  a164 := Tryd.isAgg87
  z164 := Tryd.sizeOf87
  v164 := Tryd.zeroValue87 }
theorem Tryd.Builder_Extra_156 : Builder.Extra Tryd.prog Tryd.lays156_ren := {
  sizeBuilder := by kernel_rfl
  liesBuilder := by kernel_rfl
  t5 := Tryd.underlying5
  a5 := Tryd.isAgg5
  z5 := Tryd.sizeOf5
  v5 := Tryd.zeroValue5
  infoByte := by kernel_rfl
  cellsByte := by kernel_rfl
  sizeByte := by kernel_rfl
  neB5 := by decide }
open Go.RowKit in
/-- No element: the empty string; the world is as it was. (Whatever the slice's address and capacity: a nil slice too.) (LAID: no walk: one application.) -/
theorem Tryd.strings_Join_none (a : Option Addr) (c : Nat) (sep : ByteArray) (w : World) :
    Calls Tryd.prog 19 #[.slice a 0 c, .string sep] w fun e w' => e = .returned (.string ⟨#[]⟩) ∧ w' = w := Any.strings_Join_none Tryd.lays156 Tryd.Builder_Extra_156 a c sep w
open Go.RowKit in
/-- strings.Join: "Join concatenates the elements of its first argument to create a single string. The separator string sep is placed between elements in the resulting string.": HOWEVER MANY ELEMENTS. Below the heap's end the world is as it was. (LAID: no walk: one application.) -/
theorem Tryd.strings_Join (bk o c : Nat) (xs : List ByteArray) (sep : ByteArray) (w : World) (hcells : ∀ (j : Nat) x, xs[j]? = some x → w.cell? ⟨bk, o + j, none⟩ = some (.string x)) (hbk : bk < w.heap.size) (hN : xs.length ≤ 140737488355328) (hcap : xs.length ≤ c) (hlen : (Lib.join (xs.map (·.data.toList)) sep.data.toList).length ≤ 140737488355328) :
    Calls Tryd.prog 19 #[.slice (some ⟨bk, o, none⟩) xs.length c, .string sep] w fun e w' => e = .returned (.string ⟨(Lib.join (xs.map (·.data.toList)) sep.data.toList).toArray⟩) ∧ Below w.heap.size w w' := Any.strings_Join Tryd.lays156 Tryd.Builder_Extra_156 bk o c xs sep w hcells hbk hN hcap hlen
def Tryd.lays137_ren : Go.Shelf.Ren := ⟨fun | 137 => 41 | 217 => 58 | 266 => 77 | n => n, fun | 9 => 9 | 5 => 5 | 3 => 3 | n => n, fun | n => n⟩
theorem Tryd.lays137 : Go.Proofs.Lays.n137 Tryd.prog Tryd.lays137_ren := {
  mixed := by kernel_rfl
  f137 := Tryd.func41.trans (congrArg some (by kernel_rfl))
  f217 := Tryd.func58.trans (congrArg some (by kernel_rfl))
  f266 := Tryd.func77.trans (congrArg some (by kernel_rfl))
  t3 := Tryd.underlying3
  a3 := Tryd.isAgg3
  z3 := Tryd.sizeOf3
  v3 := Tryd.zeroValue3
  t5 := Tryd.underlying5
  a5 := Tryd.isAgg5
  z5 := Tryd.sizeOf5
  v5 := Tryd.zeroValue5
  t9 := Tryd.underlying9
  a9 := Tryd.isAgg9
  z9 := Tryd.sizeOf9
  v9 := Tryd.zeroValue9 }
open Go.RowKit in
/-- strings.IndexByte: "IndexByte returns the index of the first instance of c in s, or -1 if c is not present in s.": IT RETURNS 'Lib.indexByte s c'; the world is as it was. (LAID: no walk: one application.) -/
theorem Tryd.strings_IndexByte (s : ByteArray) (c : Int) (w : World) :
    Calls Tryd.prog 41 #[.string s, .int .u8 c] w fun e w' => e = .returned (.int .i64 (Lib.indexByte s.data.toList c.toNat.toUInt8)) ∧ w' = w := Any.strings_IndexByte Tryd.lays137 s c w
def Tryd.laysM171_ren : Go.Shelf.Ren := ⟨fun | 171 => 20 | 243 => 40 | 246 => 57 | 283 => 73 | 284 => 74 | 285 => 75 | 286 => 76 | 129 => 87 | 317 => 86 | 318 => 88 | 319 => 89 | 320 => 90 | 337 => 97 | 338 => 98 | n => n, fun | 3 => 3 | 9 => 9 | 2 => 2 | 4 => 4 | 171 => 90 | 0 => 0 | 53 => 91 | 37 => 38 | 5 => 5 | 173 => 94 | 212 => 105 | 51 => 106 | 20 => 20 | 213 => 107 | 46 => 71 | 232 => 121 | 233 => 122 | n => n, fun | 17 => 6 | 18 => 9 | 19 => 10 | n => n⟩
theorem Tryd.laysM171 : Go.Proofs.LaysM.n171 Tryd.prog Tryd.laysM171_ren := {
  mixed := by kernel_rfl
  f129 := Tryd.func87.trans (congrArg some (by kernel_rfl))
  f171 := Tryd.func20.trans (congrArg some (by kernel_rfl))
  f243 := Tryd.func40.trans (congrArg some (by kernel_rfl))
  f246 := Tryd.func57.trans (congrArg some (by kernel_rfl))
  f283 := Tryd.func73.trans (congrArg some (by kernel_rfl))
  f284 := Tryd.func74.trans (congrArg some (by kernel_rfl))
  f285 := Tryd.func75.trans (congrArg some (by kernel_rfl))
  f286 := Tryd.func76.trans (congrArg some (by kernel_rfl))
  f317 := Tryd.func86.trans (congrArg some (by kernel_rfl))
  f318 := Tryd.func88.trans (congrArg some (by kernel_rfl))
  f319 := Tryd.func89.trans (congrArg some (by kernel_rfl))
  f320 := Tryd.func90.trans (congrArg some (by kernel_rfl))
  f337 := Tryd.func97.trans (congrArg some (by kernel_rfl))
  f338 := Tryd.func98.trans (congrArg some (by kernel_rfl))
  t0 := Tryd.underlying0
  a0 := Tryd.isAgg0
  z0 := Tryd.sizeOf0
  v0 := Tryd.zeroValue0
  t2 := Tryd.underlying2
  a2 := Tryd.isAgg2
  z2 := Tryd.sizeOf2
  v2 := Tryd.zeroValue2
  t3 := Tryd.underlying3
  a3 := Tryd.isAgg3
  z3 := Tryd.sizeOf3
  v3 := Tryd.zeroValue3
  t4 := Tryd.underlying4
  a4 := Tryd.isAgg4
  z4 := Tryd.sizeOf4
  v4 := Tryd.zeroValue4
  t5 := Tryd.underlying5
  a5 := Tryd.isAgg5
  z5 := Tryd.sizeOf5
  v5 := Tryd.zeroValue5
  t9 := Tryd.underlying9
  a9 := Tryd.isAgg9
  z9 := Tryd.sizeOf9
  v9 := Tryd.zeroValue9
  t20 := Tryd.underlying20
  a20 := Tryd.isAgg20
  z20 := Tryd.sizeOf20
  v20 := Tryd.zeroValue20
  t37 := Tryd.underlying38
  a37 := Tryd.isAgg38
  z37 := Tryd.sizeOf38
  v37 := Tryd.zeroValue38
  t46 := Tryd.underlying71
  a46 := Tryd.isAgg71
  z46 := Tryd.sizeOf71
  v46 := Tryd.zeroValue71
  t51 := Tryd.underlying106
  a51 := Tryd.isAgg106
  z51 := Tryd.sizeOf106
  v51 := Tryd.zeroValue106
  t53 := Tryd.underlying91
  a53 := Tryd.isAgg91
  z53 := Tryd.sizeOf91
  v53 := Tryd.zeroValue91
  t171 := Tryd.underlying90
  a171 := Tryd.isAgg90
  z171 := Tryd.sizeOf90
  v171 := Tryd.zeroValue90
  t173 := Tryd.underlying94
  a173 := Tryd.isAgg94
  z173 := Tryd.sizeOf94
  v173 := Tryd.zeroValue94
  t212 := Tryd.underlying105
  a212 := Tryd.isAgg105
  z212 := Tryd.sizeOf105
  v212 := Tryd.zeroValue105
  t213 := Tryd.underlying107
  a213 := Tryd.isAgg107
  z213 := Tryd.sizeOf107
  t232 := Tryd.underlying121
  a232 := Tryd.isAgg121
  z232 := Tryd.sizeOf121
  v232 := Tryd.zeroValue121
  t233 := Tryd.underlying122
  a233 := Tryd.isAgg122
  z233 := Tryd.sizeOf122
  v233 := Tryd.zeroValue122
  g17 := by kernel_rfl
  g18 := by kernel_rfl
  g19 := by kernel_rfl
  i0 := by kernel_rfl
  i2 := by kernel_rfl
  i3 := by kernel_rfl
  i4 := by kernel_rfl
  i5 := by kernel_rfl
  i9 := by kernel_rfl
  i20 := by kernel_rfl
  i37 := by kernel_rfl
  i46 := by kernel_rfl
  i51 := by kernel_rfl
  i53 := by kernel_rfl
  i171 := by kernel_rfl
  i173 := by kernel_rfl
  i212 := by kernel_rfl
  i232 := by kernel_rfl
  i233 := by kernel_rfl
  m17 := by kernel_rfl
  m18 := by kernel_rfl
  m19 := by kernel_rfl }
open Go.RowKit Go.Sort Go.Lib in
/-- strconv.Itoa: "Itoa is equivalent to FormatInt(int64(i), 10).": i's DECIMAL NUMERAL ('Lib.itoa': a '-' where i is negative, then the digits), FOR EVERY int. The world behind the call: the world before it, new blocks behind the heap (the library's 'var a [24]byte'), draws. (LAID: no walk: one application.) -/
theorem Tryd.strconv_Itoa (n : Int) (h0 : -9223372036854775808 ≤ n) (h1 : n ≤ 9223372036854775807) (w : World) (htab : Lib.TabIs Tryd.prog w "internal/strconv.uint64pow10" .u64 Lib.pow10Tab) :
    Calls Tryd.prog 20 #[.int .i64 n] w fun e w' => e = .returned (.string ⟨(Lib.itoa n).toArray⟩) ∧ ∃ k os, w' = grow (w.drewN k) os := Any.strconv_Itoa Tryd.laysM171 n h0 h1 w htab
def Tryd.laysC172_ren : Go.Shelf.Ren := ⟨fun | 172 => 23 | 244 => 42 | 245 => 43 | 247 => 59 | 279 => 60 | 280 => 61 | 281 => 62 | 282 => 63 | 287 => 78 | 316 => 79 | 171 => 20 | 205 => 80 | 321 => 91 | 322 => 92 | 243 => 40 | 246 => 57 | 283 => 73 | 284 => 74 | 285 => 75 | 286 => 76 | 129 => 87 | 317 => 86 | 318 => 88 | 319 => 89 | 320 => 90 | 337 => 97 | 338 => 98 | n => n, fun | 9 => 9 | 3 => 3 | 75 => 52 | 76 => 53 | 4 => 4 | 5 => 5 | 167 => 76 | 37 => 38 | 0 => 0 | 85 => 77 | 2 => 2 | 168 => 79 | 53 => 91 | 175 => 96 | 46 => 71 | 210 => 100 | 127 => 74 | 145 => 113 | 143 => 111 | 21 => 21 | 171 => 90 | 173 => 94 | 212 => 105 | 51 => 106 | 20 => 20 | 213 => 107 | 232 => 121 | 233 => 122 | 80 => 65 | n => n, fun | 15 => 3 | 16 => 4 | 17 => 6 | 18 => 9 | 19 => 10 | n => n⟩
theorem Tryd.laysC172 : Go.Proofs.LaysC.n172 Tryd.prog Tryd.laysC172_ren := {
  mixed := by kernel_rfl
  f129 := Tryd.func87.trans (congrArg some (by kernel_rfl))
  f171 := Tryd.func20.trans (congrArg some (by kernel_rfl))
  f172 := Tryd.func23.trans (congrArg some (by kernel_rfl))
  f205 := Tryd.func80.trans (congrArg some (by kernel_rfl))
  f243 := Tryd.func40.trans (congrArg some (by kernel_rfl))
  f244 := Tryd.func42.trans (congrArg some (by kernel_rfl))
  f245 := Tryd.func43.trans (congrArg some (by kernel_rfl))
  f246 := Tryd.func57.trans (congrArg some (by kernel_rfl))
  f247 := Tryd.func59.trans (congrArg some (by kernel_rfl))
  f279 := Tryd.func60.trans (congrArg some (by kernel_rfl))
  f280 := Tryd.func61.trans (congrArg some (by kernel_rfl))
  f281 := Tryd.func62.trans (congrArg some (by kernel_rfl))
  f282 := Tryd.func63.trans (congrArg some (by kernel_rfl))
  f283 := Tryd.func73.trans (congrArg some (by kernel_rfl))
  f284 := Tryd.func74.trans (congrArg some (by kernel_rfl))
  f285 := Tryd.func75.trans (congrArg some (by kernel_rfl))
  f286 := Tryd.func76.trans (congrArg some (by kernel_rfl))
  f287 := Tryd.func78.trans (congrArg some (by kernel_rfl))
  f316 := Tryd.func79.trans (congrArg some (by kernel_rfl))
  f317 := Tryd.func86.trans (congrArg some (by kernel_rfl))
  f318 := Tryd.func88.trans (congrArg some (by kernel_rfl))
  f319 := Tryd.func89.trans (congrArg some (by kernel_rfl))
  f320 := Tryd.func90.trans (congrArg some (by kernel_rfl))
  f321 := Tryd.func91.trans (congrArg some (by kernel_rfl))
  f322 := Tryd.func92.trans (congrArg some (by kernel_rfl))
  f337 := Tryd.func97.trans (congrArg some (by kernel_rfl))
  f338 := Tryd.func98.trans (congrArg some (by kernel_rfl))
  t0 := Tryd.underlying0
  a0 := Tryd.isAgg0
  z0 := Tryd.sizeOf0
  v0 := Tryd.zeroValue0
  t2 := Tryd.underlying2
  a2 := Tryd.isAgg2
  z2 := Tryd.sizeOf2
  v2 := Tryd.zeroValue2
  t3 := Tryd.underlying3
  a3 := Tryd.isAgg3
  z3 := Tryd.sizeOf3
  v3 := Tryd.zeroValue3
  t4 := Tryd.underlying4
  a4 := Tryd.isAgg4
  z4 := Tryd.sizeOf4
  v4 := Tryd.zeroValue4
  t5 := Tryd.underlying5
  a5 := Tryd.isAgg5
  z5 := Tryd.sizeOf5
  v5 := Tryd.zeroValue5
  t9 := Tryd.underlying9
  a9 := Tryd.isAgg9
  z9 := Tryd.sizeOf9
  v9 := Tryd.zeroValue9
  t20 := Tryd.underlying20
  a20 := Tryd.isAgg20
  z20 := Tryd.sizeOf20
  v20 := Tryd.zeroValue20
  t21 := Tryd.underlying21
  a21 := Tryd.isAgg21
  z21 := Tryd.sizeOf21
  v21 := Tryd.zeroValue21
  t37 := Tryd.underlying38
  a37 := Tryd.isAgg38
  z37 := Tryd.sizeOf38
  v37 := Tryd.zeroValue38
  t46 := Tryd.underlying71
  a46 := Tryd.isAgg71
  z46 := Tryd.sizeOf71
  v46 := Tryd.zeroValue71
  t51 := Tryd.underlying106
  a51 := Tryd.isAgg106
  z51 := Tryd.sizeOf106
  v51 := Tryd.zeroValue106
  t53 := Tryd.underlying91
  a53 := Tryd.isAgg91
  z53 := Tryd.sizeOf91
  v53 := Tryd.zeroValue91
  t75 := Tryd.underlying52
  a75 := Tryd.isAgg52
  z75 := Tryd.sizeOf52
  v75 := Tryd.zeroValue52
  t76 := Tryd.underlying53
  a76 := Tryd.isAgg53
  z76 := Tryd.sizeOf53
  v76 := Tryd.zeroValue53
  t85 := Tryd.underlying77
  a85 := Tryd.isAgg77
  z85 := Tryd.sizeOf77
  v85 := Tryd.zeroValue77
  t127 := Tryd.underlying74
  a127 := Tryd.isAgg74
  z127 := Tryd.sizeOf74
  v127 := Tryd.zeroValue74
  t143 := Tryd.underlying111
  a143 := Tryd.isAgg111
  z143 := Tryd.sizeOf111
  v143 := Tryd.zeroValue111
  t145 := Tryd.underlying113
  a145 := Tryd.isAgg113
  z145 := Tryd.sizeOf113
  v145 := Tryd.zeroValue113
  t167 := Tryd.underlying76
  a167 := Tryd.isAgg76
  z167 := Tryd.sizeOf76
  v167 := Tryd.zeroValue76
  t168 := Tryd.underlying79
  a168 := Tryd.isAgg79
  z168 := Tryd.sizeOf79
  v168 := Tryd.zeroValue79
  t171 := Tryd.underlying90
  a171 := Tryd.isAgg90
  z171 := Tryd.sizeOf90
  v171 := Tryd.zeroValue90
  t173 := Tryd.underlying94
  a173 := Tryd.isAgg94
  z173 := Tryd.sizeOf94
  v173 := Tryd.zeroValue94
  t175 := Tryd.underlying96
  a175 := Tryd.isAgg96
  z175 := Tryd.sizeOf96
  v175 := Tryd.zeroValue96
  t210 := Tryd.underlying100
  a210 := Tryd.isAgg100
  z210 := Tryd.sizeOf100
  v210 := Tryd.zeroValue100
  t212 := Tryd.underlying105
  a212 := Tryd.isAgg105
  z212 := Tryd.sizeOf105
  v212 := Tryd.zeroValue105
  t213 := Tryd.underlying107
  a213 := Tryd.isAgg107
  z213 := Tryd.sizeOf107
  t232 := Tryd.underlying121
  a232 := Tryd.isAgg121
  z232 := Tryd.sizeOf121
  v232 := Tryd.zeroValue121
  t233 := Tryd.underlying122
  a233 := Tryd.isAgg122
  z233 := Tryd.sizeOf122
  v233 := Tryd.zeroValue122
  g15 := by kernel_rfl
  g16 := by kernel_rfl
  g17 := by kernel_rfl
  g18 := by kernel_rfl
  g19 := by kernel_rfl
  t80 := Tryd.underlying65
  a80 := Tryd.isAgg65
  z80 := Tryd.sizeOf65
  v80 := Tryd.zeroValue65
  i0 := by kernel_rfl
  i2 := by kernel_rfl
  i3 := by kernel_rfl
  i4 := by kernel_rfl
  i5 := by kernel_rfl
  i9 := by kernel_rfl
  i20 := by kernel_rfl
  i21 := by kernel_rfl
  i37 := by kernel_rfl
  i46 := by kernel_rfl
  i51 := by kernel_rfl
  i53 := by kernel_rfl
  i75 := by kernel_rfl
  i76 := by kernel_rfl
  i80 := by kernel_rfl
  i85 := by kernel_rfl
  i127 := by kernel_rfl
  i143 := by kernel_rfl
  i145 := by kernel_rfl
  i167 := by kernel_rfl
  i168 := by kernel_rfl
  i171 := by kernel_rfl
  i173 := by kernel_rfl
  i175 := by kernel_rfl
  i210 := by kernel_rfl
  i212 := by kernel_rfl
  i232 := by kernel_rfl
  i233 := by kernel_rfl
  m15 := by kernel_rfl
  m16 := by kernel_rfl
  m17 := by kernel_rfl
  m18 := by kernel_rfl
  m19 := by kernel_rfl
  c0 := by kernel_rfl
  c2 := by kernel_rfl
  c3 := by kernel_rfl
  c4 := by kernel_rfl
  c5 := by kernel_rfl
  c9 := by kernel_rfl
  c20 := by kernel_rfl
  c21 := by kernel_rfl
  c37 := by kernel_rfl
  c46 := by kernel_rfl
  c51 := by kernel_rfl
  c53 := by kernel_rfl
  c75 := by kernel_rfl
  c76 := by kernel_rfl
  c80 := by kernel_rfl
  c85 := by kernel_rfl
  c127 := by kernel_rfl
  c143 := by kernel_rfl
  c145 := by kernel_rfl
  c167 := by kernel_rfl
  c168 := by kernel_rfl
  c171 := by kernel_rfl
  c173 := by kernel_rfl
  c175 := by kernel_rfl
  c210 := by kernel_rfl
  c212 := by kernel_rfl
  c213 := by kernel_rfl
  c232 := by kernel_rfl
  c233 := by kernel_rfl }
open Go.RowKit in
/-- strconv.Atoi, AT EVERY STRING THAT SPELLS AN int ('Lib.atoiAll .. = .ok v'; of whatever length: leading zeros count): v, AND NO ERROR. The world: as it was, or with the one new row that '[]byte(..)' lays. (LAID: no walk: one application.) -/
theorem Tryd.strconv_Atoi_ok (s : ByteArray) (hmax : s.size ≤ 9223372036854775806) (v : Int) (h : Lib.atoiAll s.data.toList = .ok v) (w : World) :
    Calls Tryd.prog 23 #[.string s] w fun e w' => e = .returned (.tuple #[.int .i64 v, .nilIface]) ∧ (w' = w ∨ ∃ t, w' = Lib.bytesWorld w 5 t) := Any.strconv_Atoi_ok Tryd.laysC172 s hmax v h w
open Go.RowKit in
theorem Tryd.strconv_Atoi_syntax_var (s : ByteArray) (hlim : s.size ≤ 281474976710656) (h : Lib.atoiAll s.data.toList = Lib.atoiAll []) (tp : TypeId) (p : Value) (w : World) (hvar : w.var? Tryd.prog "strconv.ErrSyntax" = some #[.iface tp p]) :
    Calls Tryd.prog 23 #[.string s] w fun e w' => ∃ N, e = .returned (.tuple #[.int .i64 0, .iface 79 (.pointer (some ⟨N, 0, none⟩))]) ∧ w.heap.size ≤ N ∧ w'.heap[N]? = some (.cells #[.string ⟨#[65, 116, 111, 105]⟩, .string s, .iface tp p] 100 (0, 0)) ∧ Below w.heap.size w w' := Any.strconv_Atoi_syntax_var Tryd.laysC172 s hlim h tp p w hvar
open Go.RowKit in
theorem Tryd.strconv_Atoi_range_var (s : ByteArray) (hlim : s.size ≤ 281474976710656) (h : Lib.atoiAll s.data.toList = .range) (tp : TypeId) (p : Value) (w : World) (hvar : w.var? Tryd.prog "strconv.ErrRange" = some #[.iface tp p]) :
    Calls Tryd.prog 23 #[.string s] w fun e w' => ∃ N, e = .returned (.tuple #[.int .i64 (Lib.atoiSat s.data.toList), .iface 79 (.pointer (some ⟨N, 0, none⟩))]) ∧ w.heap.size ≤ N ∧ w'.heap[N]? = some (.cells #[.string ⟨#[65, 116, 111, 105]⟩, .string s, .iface tp p] 100 (0, 0)) ∧ Below w.heap.size w w' := Any.strconv_Atoi_range_var Tryd.laysC172 s hlim h tp p w hvar
def Tryd.lays102_ren : Go.Shelf.Ren := ⟨fun | 102 => 36 | 209 => 54 | 207 => 70 | n => n, fun | 9 => 9 | 4 => 4 | 3 => 3 | n => n, fun | n => n⟩
theorem Tryd.lays102 : Go.Proofs.Lays.n102 Tryd.prog Tryd.lays102_ren := {
  mixed := by kernel_rfl
  f102 := Tryd.func36.trans (congrArg some (by kernel_rfl))
  f207 := Tryd.func70.trans (congrArg some (by kernel_rfl))
  f209 := Tryd.func54.trans (congrArg some (by kernel_rfl))
  t3 := Tryd.underlying3
  a3 := Tryd.isAgg3
  z3 := Tryd.sizeOf3
  v3 := Tryd.zeroValue3
  t4 := Tryd.underlying4
  a4 := Tryd.isAgg4
  z4 := Tryd.sizeOf4
  v4 := Tryd.zeroValue4
  t9 := Tryd.underlying9
  a9 := Tryd.isAgg9
  z9 := Tryd.sizeOf9
  v9 := Tryd.zeroValue9 }
open Go.RowKit Go.Lib in
/-- strings.TrimSuffix: "TrimSuffix returns s without the provided trailing suffix string. If s doesn't end with suffix, s is returned unchanged.": IT RETURNS 'Lib.trimSuffix s suffix'; the world is as it was. (LAID: no walk: one application.) -/
theorem Tryd.strings_TrimSuffix (s p : ByteArray) (w : World) (hs : s.size ≤ 9223372036854775807) :
    Calls Tryd.prog 36 #[.string s, .string p] w fun e w' => e = .returned (.string ⟨(Lib.trimSuffix s.data.toList p.data.toList).toArray⟩) ∧ w' = w := Any.strings_TrimSuffix Tryd.lays102 s p w hs
def Tryd.lays146_ren : Go.Shelf.Ren := ⟨fun | 146 => 35 | 221 => 53 | 268 => 67 | 138 => 68 | 143 => 69 | 195 => 82 | 197 => 83 | 218 => 84 | 219 => 85 | 260 => 93 | 217 => 58 | 225 => 94 | 224 => 95 | 267 => 96 | 266 => 77 | 314 => 99 | n => n, fun | 9 => 9 | 31 => 35 | 3 => 3 | 4 => 4 | 0 => 0 | 105 => 102 | 21 => 21 | 5 => 5 | 46 => 71 | 119 => 115 | 139 => 118 | 138 => 117 | 146 => 119 | 51 => 106 | n => n, fun | 1 => 5 | 3 => 7 | 4 => 8 | n => n⟩
theorem Tryd.lays146 : Go.Proofs.Lays.n146 Tryd.prog Tryd.lays146_ren := {
  mixed := by kernel_rfl
  f138 := Tryd.func68.trans (congrArg some (by kernel_rfl))
  f143 := Tryd.func69.trans (congrArg some (by kernel_rfl))
  f146 := Tryd.func35.trans (congrArg some (by kernel_rfl))
  f195 := Tryd.func82.trans (congrArg some (by kernel_rfl))
  f197 := Tryd.func83.trans (congrArg some (by kernel_rfl))
  f217 := Tryd.func58.trans (congrArg some (by kernel_rfl))
  f218 := Tryd.func84.trans (congrArg some (by kernel_rfl))
  f219 := Tryd.func85.trans (congrArg some (by kernel_rfl))
  f221 := Tryd.func53.trans (congrArg some (by kernel_rfl))
  f224 := Tryd.func95.trans (congrArg some (by kernel_rfl))
  f225 := Tryd.func94.trans (congrArg some (by kernel_rfl))
  f260 := Tryd.func93.trans (congrArg some (by kernel_rfl))
  f266 := Tryd.func77.trans (congrArg some (by kernel_rfl))
  f267 := Tryd.func96.trans (congrArg some (by kernel_rfl))
  f268 := Tryd.func67.trans (congrArg some (by kernel_rfl))
  f314 := Tryd.func99.trans (congrArg some (by kernel_rfl))
  t0 := Tryd.underlying0
  a0 := Tryd.isAgg0
  z0 := Tryd.sizeOf0
  v0 := Tryd.zeroValue0
  t3 := Tryd.underlying3
  a3 := Tryd.isAgg3
  z3 := Tryd.sizeOf3
  v3 := Tryd.zeroValue3
  t4 := Tryd.underlying4
  a4 := Tryd.isAgg4
  z4 := Tryd.sizeOf4
  v4 := Tryd.zeroValue4
  t5 := Tryd.underlying5
  a5 := Tryd.isAgg5
  z5 := Tryd.sizeOf5
  v5 := Tryd.zeroValue5
  t9 := Tryd.underlying9
  a9 := Tryd.isAgg9
  z9 := Tryd.sizeOf9
  v9 := Tryd.zeroValue9
  t21 := Tryd.underlying21
  a21 := Tryd.isAgg21
  z21 := Tryd.sizeOf21
  v21 := Tryd.zeroValue21
  t31 := Tryd.underlying35
  a31 := Tryd.isAgg35
  z31 := Tryd.sizeOf35
  v31 := Tryd.zeroValue35
  t46 := Tryd.underlying71
  a46 := Tryd.isAgg71
  z46 := Tryd.sizeOf71
  v46 := Tryd.zeroValue71
  t51 := Tryd.underlying106
  a51 := Tryd.isAgg106
  z51 := Tryd.sizeOf106
  v51 := Tryd.zeroValue106
  t105 := Tryd.underlying102
  a105 := Tryd.isAgg102
  z105 := Tryd.sizeOf102
  v105 := Tryd.zeroValue102
  t119 := Tryd.underlying115
  a119 := Tryd.isAgg115
  z119 := Tryd.sizeOf115
  t138 := Tryd.underlying117
  a138 := Tryd.isAgg117
  z138 := Tryd.sizeOf117
  v138 := Tryd.zeroValue117
  t139 := Tryd.underlying118
  a139 := Tryd.isAgg118
  z139 := Tryd.sizeOf118
  v139 := Tryd.zeroValue118
  t146 := Tryd.underlying119
  a146 := Tryd.isAgg119
  z146 := Tryd.sizeOf119
  v146 := Tryd.zeroValue119
  g1 := by kernel_rfl
  g3 := by kernel_rfl
  g4 := by kernel_rfl }
open Go.RowKit Go.Lib in
/-- strings.Split. (LAID: no walk: one application.) -/
theorem Tryd.strings_Split (s sep : ByteArray) (m : Int) (w : World) (hs : s.size < 4294967281) (hm : w.cell? ⟨5, 0, none⟩ = some (.int .i64 m)) (h1 : 1 ≤ sep.size) :
    Calls Tryd.prog 35 #[.string s, .string sep] w fun e w' =>
      e = .returned (.slice (some ⟨w.heap.size, 0, none⟩) (Lib.countB s sep + 1) (Lib.countB s sep + 1)) ∧ w' = w.alloc (.cells ((Lib.splitB sep 0 (Lib.countB s sep) s).map Value.string).toArray 9) := Any.strings_Split Tryd.lays146 (by kernel_rfl) s sep m w hs hm h1
end Go.Proofs
