/-
  DERIVED: THE SHELF's CONTRACTS AT THIS DUMP, IN PLAIN WORDS (tools/lay-plain.mjs out of 'TryzShelf.lean', which tools/lay-shelf.mjs wrote): THE SAME DECLARATIONS UNDER THE SAME NAMES: 'import', 'namespace', 'open', 'def', 'theorem' AND NOTHING ELSE: no command of the shelf's: FOR A HAND-IN. Each laying: the table of numbers ('.._ren') and one theorem, a field a fact of the dump's own or the kernel's comparison; each contract: ONE APPLICATION.
-/
import Derived.Shelf.Strings.Builder1
import Derived.Shelf.Strings.Builder2
import Derived.Shelf.Strings.OnBuilder
import Derived.Shelf.Small.Bits
import Derived.Shelf.Small.Strs
import Derived.Shelf.Small.Wraps
import Derived.Shelf.Utf8.RuneCount
import Derived.Shelf.Strconv.Itoa0
import Derived.Shelf.Strconv.Itoa1
import Derived.Shelf.LaysM
import Derived.Shelf.Strconv.Itoa2
import Derived.Shelf.Strconv.Itoa3
import Derived.Shelf.Strings.Search1
import Derived.Shelf.Strings.Search2
import Derived.Shelf.Strings.Search3
import Derived.Shelf.Strings.Cut
import Derived.Shelf.Strings.Count
import Derived.Shelf.Strings.Shaped
import Derived.Shelf.Sort.Plain
import Derived.Ground.GgsProg
import Derived.Shelf.GgSortFunc.Insertion
import Derived.Shelf.GgSortFunc.Small
import Derived.Shelf.GgSortFunc.InsertionK
import Derived.Shelf.GgSortFunc.SmallK
import Derived.Shelf.Strings.Prefix
import Derived.Shelf.Strings.Split
import Derived.Shelf.Strings.SplitShaped
import Derived.Shelf.Unicode.Decode
import Derived.Shelf.Strings.RuneCount
import Derived.Shelf.Unicode.DecodeSlow
import Derived.Test.YtahamclodagihaaGreatDoorProg
namespace Go.Proofs
open Go.Shelf
def Tryz.lays156_ren : Go.Shelf.Ren := ⟨fun | 156 => 66 | 165 => 129 | 166 => 130 | 169 => 131 | 240 => 193 | 241 => 194 | 276 => 232 | 277 => 233 | n => n, fun | 31 => 55 | 9 => 9 | 3 => 3 | 4 => 4 | 0 => 0 | 20 => 20 | 72 => 158 | 76 => 162 | 70 => 156 | 37 => 63 | 75 => 161 | 127 => 204 | 164 => 145 | 5 => 5 | 80 => 130 | n => n, fun | n => n⟩
theorem Tryz.lays156 : Go.Proofs.Lays.n156 Tryz.prog Tryz.lays156_ren := {
  mixed := by kernel_rfl
  f156 := Tryz.func66.trans (congrArg some (by kernel_rfl))
  f165 := Tryz.func129.trans (congrArg some (by kernel_rfl))
  f166 := Tryz.func130.trans (congrArg some (by kernel_rfl))
  f169 := Tryz.func131.trans (congrArg some (by kernel_rfl))
  f240 := Tryz.func193.trans (congrArg some (by kernel_rfl))
  f241 := Tryz.func194.trans (congrArg some (by kernel_rfl))
  f276 := Tryz.func232.trans (congrArg some (by kernel_rfl))
  f277 := Tryz.func233.trans (congrArg some (by kernel_rfl))
  t0 := Tryz.underlying0
  a0 := Tryz.isAgg0
  z0 := Tryz.sizeOf0
  v0 := Tryz.zeroValue0
  t3 := Tryz.underlying3
  a3 := Tryz.isAgg3
  z3 := Tryz.sizeOf3
  v3 := Tryz.zeroValue3
  t4 := Tryz.underlying4
  a4 := Tryz.isAgg4
  z4 := Tryz.sizeOf4
  v4 := Tryz.zeroValue4
  t9 := Tryz.underlying9
  a9 := Tryz.isAgg9
  z9 := Tryz.sizeOf9
  v9 := Tryz.zeroValue9
  t20 := Tryz.underlying20
  a20 := Tryz.isAgg20
  z20 := Tryz.sizeOf20
  v20 := Tryz.zeroValue20
  t31 := Tryz.underlying55
  a31 := Tryz.isAgg55
  z31 := Tryz.sizeOf55
  v31 := Tryz.zeroValue55
  t37 := Tryz.underlying63
  a37 := Tryz.isAgg63
  z37 := Tryz.sizeOf63
  v37 := Tryz.zeroValue63
  t70 := Tryz.underlying156
  a70 := Tryz.isAgg156
  z70 := Tryz.sizeOf156
  v70 := Tryz.zeroValue156
  t72 := Tryz.underlying158
  a72 := Tryz.isAgg158
  z72 := Tryz.sizeOf158
  v72 := Tryz.zeroValue158
  t75 := Tryz.underlying161
  a75 := Tryz.isAgg161
  z75 := Tryz.sizeOf161
  v75 := Tryz.zeroValue161
  t76 := Tryz.underlying162
  a76 := Tryz.isAgg162
  z76 := Tryz.sizeOf162
  v76 := Tryz.zeroValue162
  t127 := Tryz.underlying204
  a127 := Tryz.isAgg204
  z127 := Tryz.sizeOf204
  v127 := Tryz.zeroValue204
  t164 := Tryz.underlying145
  a164 := Tryz.isAgg145
  z164 := Tryz.sizeOf145
  v164 := Tryz.zeroValue145 }
theorem Tryz.Builder_Extra_156 : Builder.Extra Tryz.prog Tryz.lays156_ren := {
  sizeBuilder := by kernel_rfl
  liesBuilder := by kernel_rfl
  t5 := Tryz.underlying5
  a5 := Tryz.isAgg5
  z5 := Tryz.sizeOf5
  v5 := Tryz.zeroValue5
  infoByte := by kernel_rfl
  cellsByte := by kernel_rfl
  sizeByte := by kernel_rfl
  neB5 := by decide }
open Go.RowKit in
/-- No element: the empty string; the world is as it was. (Whatever the slice's address and capacity: a nil slice too.) (LAID: no walk: one application.) -/
theorem Tryz.strings_Join_none (a : Option Addr) (c : Nat) (sep : ByteArray) (w : World) :
    Calls Tryz.prog 66 #[.slice a 0 c, .string sep] w fun e w' => e = .returned (.string ⟨#[]⟩) ∧ w' = w := Any.strings_Join_none Tryz.lays156 Tryz.Builder_Extra_156 a c sep w
open Go.RowKit in
/-- strings.Join: "Join concatenates the elements of its first argument to create a single string. The separator string sep is placed between elements in the resulting string.": HOWEVER MANY ELEMENTS. Below the heap's end the world is as it was. (LAID: no walk: one application.) -/
theorem Tryz.strings_Join (bk o c : Nat) (xs : List ByteArray) (sep : ByteArray) (w : World) (hcells : ∀ (j : Nat) x, xs[j]? = some x → w.cell? ⟨bk, o + j, none⟩ = some (.string x)) (hbk : bk < w.heap.size) (hN : xs.length ≤ 140737488355328) (hcap : xs.length ≤ c) (hlen : (Lib.join (xs.map (·.data.toList)) sep.data.toList).length ≤ 140737488355328) :
    Calls Tryz.prog 66 #[.slice (some ⟨bk, o, none⟩) xs.length c, .string sep] w fun e w' => e = .returned (.string ⟨(Lib.join (xs.map (·.data.toList)) sep.data.toList).toArray⟩) ∧ Below w.heap.size w w' := Any.strings_Join Tryz.lays156 Tryz.Builder_Extra_156 bk o c xs sep w hcells hbk hN hcap hlen
def Tryz.lays137_ren : Go.Shelf.Ren := ⟨fun | 137 => 150 | 217 => 215 | 266 => 258 | n => n, fun | 9 => 9 | 5 => 5 | 3 => 3 | n => n, fun | n => n⟩
theorem Tryz.lays137 : Go.Proofs.Lays.n137 Tryz.prog Tryz.lays137_ren := {
  mixed := by kernel_rfl
  f137 := Tryz.func150.trans (congrArg some (by kernel_rfl))
  f217 := Tryz.func215.trans (congrArg some (by kernel_rfl))
  f266 := Tryz.func258.trans (congrArg some (by kernel_rfl))
  t3 := Tryz.underlying3
  a3 := Tryz.isAgg3
  z3 := Tryz.sizeOf3
  v3 := Tryz.zeroValue3
  t5 := Tryz.underlying5
  a5 := Tryz.isAgg5
  z5 := Tryz.sizeOf5
  v5 := Tryz.zeroValue5
  t9 := Tryz.underlying9
  a9 := Tryz.isAgg9
  z9 := Tryz.sizeOf9
  v9 := Tryz.zeroValue9 }
open Go.RowKit in
/-- strings.IndexByte: "IndexByte returns the index of the first instance of c in s, or -1 if c is not present in s.": IT RETURNS 'Lib.indexByte s c'; the world is as it was. (LAID: no walk: one application.) -/
theorem Tryz.strings_IndexByte (s : ByteArray) (c : Int) (w : World) :
    Calls Tryz.prog 150 #[.string s, .int .u8 c] w fun e w' => e = .returned (.int .i64 (Lib.indexByte s.data.toList c.toNat.toUInt8)) ∧ w' = w := Any.strings_IndexByte Tryz.lays137 s c w
def Tryz.lays103_ren : Go.Shelf.Ren := ⟨fun | 103 => 99 | 210 => 148 | 206 => 214 | n => n, fun | 9 => 9 | 4 => 4 | 24 => 131 | 3 => 3 | n => n, fun | n => n⟩
theorem Tryz.lays103 : Go.Proofs.Lays.n103 Tryz.prog Tryz.lays103_ren := {
  mixed := by kernel_rfl
  f103 := Tryz.func99.trans (congrArg some (by kernel_rfl))
  f206 := Tryz.func214.trans (congrArg some (by kernel_rfl))
  f210 := Tryz.func148.trans (congrArg some (by kernel_rfl))
  t3 := Tryz.underlying3
  a3 := Tryz.isAgg3
  z3 := Tryz.sizeOf3
  v3 := Tryz.zeroValue3
  t4 := Tryz.underlying4
  a4 := Tryz.isAgg4
  z4 := Tryz.sizeOf4
  v4 := Tryz.zeroValue4
  t9 := Tryz.underlying9
  a9 := Tryz.isAgg9
  z9 := Tryz.sizeOf9
  v9 := Tryz.zeroValue9
  t24 := Tryz.underlying131
  a24 := Tryz.isAgg131
  z24 := Tryz.sizeOf131
  v24 := Tryz.zeroValue131 }
open Go.RowKit in
/-- strings.CutPrefix: "CutPrefix returns s without the provided leading prefix string and reports whether it found the prefix. If s doesn't start with prefix, CutPrefix returns s, false. If prefix is the empty string, CutPrefix returns s, true.": IT RETURNS '(Lib.trimPrefix s p, Lib.hasPrefix s p)'; the world is as it was. (LAID: no walk: one application.) -/
theorem Tryz.strings_CutPrefix (s p : ByteArray) (w : World) :
    Calls Tryz.prog 99 #[.string s, .string p] w fun e w' => e = .returned (.tuple #[.string ⟨(Lib.trimPrefix s.data.toList p.data.toList).toArray⟩, .bool (Lib.hasPrefix s.data.toList p.data.toList)]) ∧ w' = w := Any.strings_CutPrefix Tryz.lays103 s p w
def Tryz.laysM171_ren : Go.Shelf.Ren := ⟨fun | 171 => 136 | 243 => 200 | 246 => 239 | 283 => 270 | 284 => 271 | 285 => 272 | 286 => 273 | 129 => 184 | 317 => 287 | 318 => 288 | 319 => 289 | 320 => 290 | 337 => 294 | 338 => 295 | n => n, fun | 3 => 3 | 9 => 9 | 2 => 2 | 4 => 4 | 171 => 241 | 0 => 0 | 53 => 195 | 37 => 63 | 5 => 5 | 173 => 243 | 212 => 255 | 51 => 193 | 20 => 20 | 213 => 256 | 46 => 142 | 232 => 260 | 233 => 261 | n => n, fun | 17 => 3 | 18 => 4 | 19 => 5 | n => n⟩
theorem Tryz.laysM171 : Go.Proofs.LaysM.n171 Tryz.prog Tryz.laysM171_ren := {
  mixed := by kernel_rfl
  f129 := Tryz.func184.trans (congrArg some (by kernel_rfl))
  f171 := Tryz.func136.trans (congrArg some (by kernel_rfl))
  f243 := Tryz.func200.trans (congrArg some (by kernel_rfl))
  f246 := Tryz.func239.trans (congrArg some (by kernel_rfl))
  f283 := Tryz.func270.trans (congrArg some (by kernel_rfl))
  f284 := Tryz.func271.trans (congrArg some (by kernel_rfl))
  f285 := Tryz.func272.trans (congrArg some (by kernel_rfl))
  f286 := Tryz.func273.trans (congrArg some (by kernel_rfl))
  f317 := Tryz.func287.trans (congrArg some (by kernel_rfl))
  f318 := Tryz.func288.trans (congrArg some (by kernel_rfl))
  f319 := Tryz.func289.trans (congrArg some (by kernel_rfl))
  f320 := Tryz.func290.trans (congrArg some (by kernel_rfl))
  f337 := Tryz.func294.trans (congrArg some (by kernel_rfl))
  f338 := Tryz.func295.trans (congrArg some (by kernel_rfl))
  t0 := Tryz.underlying0
  a0 := Tryz.isAgg0
  z0 := Tryz.sizeOf0
  v0 := Tryz.zeroValue0
  t2 := Tryz.underlying2
  a2 := Tryz.isAgg2
  z2 := Tryz.sizeOf2
  v2 := Tryz.zeroValue2
  t3 := Tryz.underlying3
  a3 := Tryz.isAgg3
  z3 := Tryz.sizeOf3
  v3 := Tryz.zeroValue3
  t4 := Tryz.underlying4
  a4 := Tryz.isAgg4
  z4 := Tryz.sizeOf4
  v4 := Tryz.zeroValue4
  t5 := Tryz.underlying5
  a5 := Tryz.isAgg5
  z5 := Tryz.sizeOf5
  v5 := Tryz.zeroValue5
  t9 := Tryz.underlying9
  a9 := Tryz.isAgg9
  z9 := Tryz.sizeOf9
  v9 := Tryz.zeroValue9
  t20 := Tryz.underlying20
  a20 := Tryz.isAgg20
  z20 := Tryz.sizeOf20
  v20 := Tryz.zeroValue20
  t37 := Tryz.underlying63
  a37 := Tryz.isAgg63
  z37 := Tryz.sizeOf63
  v37 := Tryz.zeroValue63
  t46 := Tryz.underlying142
  a46 := Tryz.isAgg142
  z46 := Tryz.sizeOf142
  v46 := Tryz.zeroValue142
  t51 := Tryz.underlying193
  a51 := Tryz.isAgg193
  z51 := Tryz.sizeOf193
  v51 := Tryz.zeroValue193
  t53 := Tryz.underlying195
  a53 := Tryz.isAgg195
  z53 := Tryz.sizeOf195
  v53 := Tryz.zeroValue195
  t171 := Tryz.underlying241
  a171 := Tryz.isAgg241
  z171 := Tryz.sizeOf241
  v171 := Tryz.zeroValue241
  t173 := Tryz.underlying243
  a173 := Tryz.isAgg243
  z173 := Tryz.sizeOf243
  v173 := Tryz.zeroValue243
  t212 := Tryz.underlying255
  a212 := Tryz.isAgg255
  z212 := Tryz.sizeOf255
  v212 := Tryz.zeroValue255
  t213 := Tryz.underlying256
  a213 := Tryz.isAgg256
  z213 := Tryz.sizeOf256
  t232 := Tryz.underlying260
  a232 := Tryz.isAgg260
  z232 := Tryz.sizeOf260
  v232 := Tryz.zeroValue260
  t233 := Tryz.underlying261
  a233 := Tryz.isAgg261
  z233 := Tryz.sizeOf261
  v233 := Tryz.zeroValue261
  g17 := by kernel_rfl
  g18 := by kernel_rfl
  g19 := by kernel_rfl
  i0 := by kernel_rfl
  i2 := by kernel_rfl
  i3 := by kernel_rfl
  i4 := by kernel_rfl
  i5 := by kernel_rfl
  i9 := by kernel_rfl
  i20 := by kernel_rfl
  i37 := by kernel_rfl
  i46 := by kernel_rfl
  i51 := by kernel_rfl
  i53 := by kernel_rfl
  i171 := by kernel_rfl
  i173 := by kernel_rfl
  i212 := by kernel_rfl
  i232 := by kernel_rfl
  i233 := by kernel_rfl
  m17 := by kernel_rfl
  m18 := by kernel_rfl
  m19 := by kernel_rfl }
open Go.RowKit Go.Sort Go.Lib in
/-- strconv.Itoa: "Itoa is equivalent to FormatInt(int64(i), 10).": i's DECIMAL NUMERAL ('Lib.itoa': a '-' where i is negative, then the digits), FOR EVERY int. The world behind the call: the world before it, new blocks behind the heap (the library's 'var a [24]byte'), draws. (LAID: no walk: one application.) -/
theorem Tryz.strconv_Itoa (n : Int) (h0 : -9223372036854775808 ≤ n) (h1 : n ≤ 9223372036854775807) (w : World) (htab : Lib.TabIs Tryz.prog w "internal/strconv.uint64pow10" .u64 Lib.pow10Tab) :
    Calls Tryz.prog 136 #[.int .i64 n] w fun e w' => e = .returned (.string ⟨(Lib.itoa n).toArray⟩) ∧ ∃ k os, w' = grow (w.drewN k) os := Any.strconv_Itoa Tryz.laysM171 n h0 h1 w htab
def Tryz.lays144_ren : Go.Shelf.Ren := ⟨fun | 144 => 254 | 143 => 197 | 219 => 237 | 217 => 215 | 225 => 266 | 224 => 267 | 267 => 268 | 266 => 258 | 314 => 286 | n => n, fun | 9 => 9 | 4 => 4 | 3 => 3 | 5 => 5 | 46 => 142 | 146 => 252 | 51 => 193 | n => n, fun | 1 => 0 | n => n⟩
theorem Tryz.lays144 : Go.Proofs.Lays.n144 Tryz.prog Tryz.lays144_ren := {
  mixed := by kernel_rfl
  f143 := Tryz.func197.trans (congrArg some (by kernel_rfl))
  f144 := Tryz.func254.trans (congrArg some (by kernel_rfl))
  f217 := Tryz.func215.trans (congrArg some (by kernel_rfl))
  f219 := Tryz.func237.trans (congrArg some (by kernel_rfl))
  f224 := Tryz.func267.trans (congrArg some (by kernel_rfl))
  f225 := Tryz.func266.trans (congrArg some (by kernel_rfl))
  f266 := Tryz.func258.trans (congrArg some (by kernel_rfl))
  f267 := Tryz.func268.trans (congrArg some (by kernel_rfl))
  f314 := Tryz.func286.trans (congrArg some (by kernel_rfl))
  t3 := Tryz.underlying3
  a3 := Tryz.isAgg3
  z3 := Tryz.sizeOf3
  v3 := Tryz.zeroValue3
  t4 := Tryz.underlying4
  a4 := Tryz.isAgg4
  z4 := Tryz.sizeOf4
  v4 := Tryz.zeroValue4
  t5 := Tryz.underlying5
  a5 := Tryz.isAgg5
  z5 := Tryz.sizeOf5
  v5 := Tryz.zeroValue5
  t9 := Tryz.underlying9
  a9 := Tryz.isAgg9
  z9 := Tryz.sizeOf9
  v9 := Tryz.zeroValue9
  t46 := Tryz.underlying142
  a46 := Tryz.isAgg142
  z46 := Tryz.sizeOf142
  v46 := Tryz.zeroValue142
  t51 := Tryz.underlying193
  a51 := Tryz.isAgg193
  z51 := Tryz.sizeOf193
  v51 := Tryz.zeroValue193
  t146 := Tryz.underlying252
  a146 := Tryz.isAgg252
  z146 := Tryz.sizeOf252
  v146 := Tryz.zeroValue252
  g1 := by kernel_rfl }
open Go.RowKit Go.Lib in
/-- strings.Contains: "Contains reports whether substr is within s.": AT A substr OF ONE BYTE c: IT RETURNS 'decide (0 ≤ Lib.indexByte s c)'; the world is as it was. (LAID: no walk: one application.) -/
theorem Tryz.strings_Contains_one (s : ByteArray) (c : UInt8) (w : World) :
    Calls Tryz.prog 254 #[.string s, .string ⟨#[c]⟩] w fun e w' => e = .returned (.bool (decide (0 ≤ Lib.indexByte s.data.toList c))) ∧ w' = w := Any.strings_Contains_one Tryz.lays144 s c w
open Go.RowKit Go.Lib in
/-- strings.Contains: "Contains reports whether substr is within s.": IT RETURNS 'Lib.contains s substr'; the world is as it was. (LAID: no walk: one application.) -/
theorem Tryz.strings_Contains (s sub : ByteArray) (m : Int) (w : World) (hs : s.size < 4294967281) (hm : w.cell? ⟨0, 0, none⟩ = some (.int .i64 m)) :
    Calls Tryz.prog 254 #[.string s, .string sub] w fun e w' => e = .returned (.bool (Lib.contains s.data.toList sub.data.toList)) ∧ w' = w := Any.strings_Contains Tryz.lays144 s sub m w hs hm
def Tryz.lays145_ren : Go.Shelf.Ren := ⟨fun | 145 => 134 | 220 => 198 | 219 => 237 | 217 => 215 | 225 => 266 | 224 => 267 | 267 => 268 | 266 => 258 | 314 => 286 | n => n, fun | 9 => 9 | 4 => 4 | 59 => 165 | 3 => 3 | 5 => 5 | 46 => 142 | 146 => 252 | 51 => 193 | n => n, fun | 1 => 0 | n => n⟩
theorem Tryz.lays145 : Go.Proofs.Lays.n145 Tryz.prog Tryz.lays145_ren := {
  mixed := by kernel_rfl
  f145 := Tryz.func134.trans (congrArg some (by kernel_rfl))
  f217 := Tryz.func215.trans (congrArg some (by kernel_rfl))
  f219 := Tryz.func237.trans (congrArg some (by kernel_rfl))
  f220 := Tryz.func198.trans (congrArg some (by kernel_rfl))
  f224 := Tryz.func267.trans (congrArg some (by kernel_rfl))
  f225 := Tryz.func266.trans (congrArg some (by kernel_rfl))
  f266 := Tryz.func258.trans (congrArg some (by kernel_rfl))
  f267 := Tryz.func268.trans (congrArg some (by kernel_rfl))
  f314 := Tryz.func286.trans (congrArg some (by kernel_rfl))
  t3 := Tryz.underlying3
  a3 := Tryz.isAgg3
  z3 := Tryz.sizeOf3
  v3 := Tryz.zeroValue3
  t4 := Tryz.underlying4
  a4 := Tryz.isAgg4
  z4 := Tryz.sizeOf4
  v4 := Tryz.zeroValue4
  t5 := Tryz.underlying5
  a5 := Tryz.isAgg5
  z5 := Tryz.sizeOf5
  v5 := Tryz.zeroValue5
  t9 := Tryz.underlying9
  a9 := Tryz.isAgg9
  z9 := Tryz.sizeOf9
  v9 := Tryz.zeroValue9
  t46 := Tryz.underlying142
  a46 := Tryz.isAgg142
  z46 := Tryz.sizeOf142
  v46 := Tryz.zeroValue142
  t51 := Tryz.underlying193
  a51 := Tryz.isAgg193
  z51 := Tryz.sizeOf193
  v51 := Tryz.zeroValue193
  t59 := Tryz.underlying165
  a59 := Tryz.isAgg165
  z59 := Tryz.sizeOf165
  v59 := Tryz.zeroValue165
  t146 := Tryz.underlying252
  a146 := Tryz.isAgg252
  z146 := Tryz.sizeOf252
  v146 := Tryz.zeroValue252
  g1 := by kernel_rfl }
open Go.RowKit Go.Lib in
/-- strings.Cut: "Cut slices s around the first instance of sep, returning the text before and after sep. The found result reports whether sep appears in s. If sep does not appear in s, cut returns s, "", false.": IT RETURNS 'Lib.cut s sep'; the world is as it was but for the count of draws. (LAID: no walk: one application.) -/
theorem Tryz.strings_Cut (s sep : ByteArray) (m : Int) (w : World) (hs : s.size < 4294967281) (hm : w.cell? ⟨0, 0, none⟩ = some (.int .i64 m)) :
    Calls Tryz.prog 134 #[.string s, .string sep] w fun e w' => e = .returned (.tuple #[.string ⟨(Lib.cut s.data.toList sep.data.toList).1.toArray⟩, .string ⟨(Lib.cut s.data.toList sep.data.toList).2.1.toArray⟩, .bool (Lib.cut s.data.toList sep.data.toList).2.2]) ∧ ∃ n, w' = w.drewN n := Any.strings_Cut Tryz.lays145 s sep m w hs hm
def Tryz.lays192_ren : Go.Shelf.Ren := ⟨fun | 192 => 75 | 190 => 137 | 125 => 127 | 258 => 201 | 128 => 183 | 129 => 184 | 302 => 240 | 303 => 241 | 304 => 242 | 305 => 243 | 306 => 244 | 307 => 245 | 308 => 246 | 309 => 247 | 310 => 248 | 333 => 274 | 329 => 275 | 330 => 276 | 334 => 277 | 335 => 278 | 336 => 279 | 344 => 291 | n => n, fun | 31 => 55 | 0 => 0 | 9 => 9 | 3 => 3 | 46 => 142 | 51 => 193 | 53 => 195 | 4 => 4 | 183 => 229 | 182 => 228 | 131 => 202 | 5 => 5 | 218 => 245 | 222 => 220 | 228 => 258 | 229 => 239 | n => n, fun | n => n⟩
theorem Tryz.lays192 : Go.Proofs.Lays.n192 Tryz.prog Tryz.lays192_ren := {
  mixed := by kernel_rfl
  f125 := Tryz.func127.trans (congrArg some (by kernel_rfl))
  f128 := Tryz.func183.trans (congrArg some (by kernel_rfl))
  f129 := Tryz.func184.trans (congrArg some (by kernel_rfl))
  f190 := Tryz.func137.trans (congrArg some (by kernel_rfl))
  f192 := Tryz.func75.trans (congrArg some (by kernel_rfl))
  f258 := Tryz.func201.trans (congrArg some (by kernel_rfl))
  f302 := Tryz.func240.trans (congrArg some (by kernel_rfl))
  f303 := Tryz.func241.trans (congrArg some (by kernel_rfl))
  f304 := Tryz.func242.trans (congrArg some (by kernel_rfl))
  f305 := Tryz.func243.trans (congrArg some (by kernel_rfl))
  f306 := Tryz.func244.trans (congrArg some (by kernel_rfl))
  f307 := Tryz.func245.trans (congrArg some (by kernel_rfl))
  f308 := Tryz.func246.trans (congrArg some (by kernel_rfl))
  f309 := Tryz.func247.trans (congrArg some (by kernel_rfl))
  f310 := Tryz.func248.trans (congrArg some (by kernel_rfl))
  f329 := Tryz.func275.trans (congrArg some (by kernel_rfl))
  f330 := Tryz.func276.trans (congrArg some (by kernel_rfl))
  f333 := Tryz.func274.trans (congrArg some (by kernel_rfl))
  f334 := Tryz.func277.trans (congrArg some (by kernel_rfl))
  f335 := Tryz.func278.trans (congrArg some (by kernel_rfl))
  f336 := Tryz.func279.trans (congrArg some (by kernel_rfl))
  f344 := Tryz.func291.trans (congrArg some (by kernel_rfl))
  t0 := Tryz.underlying0
  a0 := Tryz.isAgg0
  z0 := Tryz.sizeOf0
  v0 := Tryz.zeroValue0
  t3 := Tryz.underlying3
  a3 := Tryz.isAgg3
  z3 := Tryz.sizeOf3
  v3 := Tryz.zeroValue3
  t4 := Tryz.underlying4
  a4 := Tryz.isAgg4
  z4 := Tryz.sizeOf4
  v4 := Tryz.zeroValue4
  t5 := Tryz.underlying5
  a5 := Tryz.isAgg5
  z5 := Tryz.sizeOf5
  v5 := Tryz.zeroValue5
  t9 := Tryz.underlying9
  a9 := Tryz.isAgg9
  z9 := Tryz.sizeOf9
  v9 := Tryz.zeroValue9
  t31 := Tryz.underlying55
  a31 := Tryz.isAgg55
  z31 := Tryz.sizeOf55
  v31 := Tryz.zeroValue55
  t46 := Tryz.underlying142
  a46 := Tryz.isAgg142
  z46 := Tryz.sizeOf142
  v46 := Tryz.zeroValue142
  t51 := Tryz.underlying193
  a51 := Tryz.isAgg193
  z51 := Tryz.sizeOf193
  v51 := Tryz.zeroValue193
  t53 := Tryz.underlying195
  a53 := Tryz.isAgg195
  z53 := Tryz.sizeOf195
  v53 := Tryz.zeroValue195
  t131 := Tryz.underlying202
  a131 := Tryz.isAgg202
  z131 := Tryz.sizeOf202
  v131 := Tryz.zeroValue202
  t182 := Tryz.underlying228
  a182 := Tryz.isAgg228
  z182 := Tryz.sizeOf228
  v182 := Tryz.zeroValue228
  t183 := Tryz.underlying229
  a183 := Tryz.isAgg229
  z183 := Tryz.sizeOf229
  v183 := Tryz.zeroValue229
  t218 := Tryz.underlying245
  a218 := Tryz.isAgg245
  z218 := Tryz.sizeOf245
  v218 := Tryz.zeroValue245
  t222 := Tryz.underlying220
  a222 := Tryz.isAgg220
  z222 := Tryz.sizeOf220
  v222 := Tryz.zeroValue220
  t228 := Tryz.underlying258
  a228 := Tryz.isAgg258
  z228 := Tryz.sizeOf258
  v228 := Tryz.zeroValue258
  t229 := Tryz.underlying239
  a229 := Tryz.isAgg239
  z229 := Tryz.sizeOf239
  v229 := Tryz.zeroValue239 }
open Go.Sort Go.RowKit in
theorem Tryz.sort_Strings (blk off cap : Nat) (ss : List (List UInt8)) (w : World) (hH : Holds encStr w blk off ss.toArray) (hblk : blk < w.heap.size) (hsz : ss.length < 4611686018427387904) :
    Calls Tryz.prog 75 #[.slice (some ⟨blk, off, none⟩) ss.length cap] w fun e w' =>
      e = .returned (.tuple #[]) ∧ ∃ n os, w' = grow (putRow encStr (Sort.ahead w n) blk off (ss.mergeSort fun x y => decide (x ≤ y)).toArray) os := Any.sort_Strings Tryz.lays192 blk off cap ss w hH hblk hsz
def Tryz.lays99_ren : Go.Shelf.Ren := ⟨fun | 99 => 226 | 206 => 214 | n => n, fun | 9 => 9 | 4 => 4 | 3 => 3 | n => n, fun | n => n⟩
theorem Tryz.lays99 : Go.Proofs.Lays.n99 Tryz.prog Tryz.lays99_ren := {
  mixed := by kernel_rfl
  f99 := Tryz.func226.trans (congrArg some (by kernel_rfl))
  f206 := Tryz.func214.trans (congrArg some (by kernel_rfl))
  t3 := Tryz.underlying3
  a3 := Tryz.isAgg3
  z3 := Tryz.sizeOf3
  v3 := Tryz.zeroValue3
  t4 := Tryz.underlying4
  a4 := Tryz.isAgg4
  z4 := Tryz.sizeOf4
  v4 := Tryz.zeroValue4
  t9 := Tryz.underlying9
  a9 := Tryz.isAgg9
  z9 := Tryz.sizeOf9
  v9 := Tryz.zeroValue9 }
open Go.RowKit Go.Lib in
/-- strings.HasPrefix: "HasPrefix reports whether the string s begins with prefix.": IT RETURNS 'Lib.hasPrefix s prefix'; the world is as it was. (LAID: no walk: one application.) -/
theorem Tryz.strings_HasPrefix (s p : ByteArray) (w : World) :
    Calls Tryz.prog 226 #[.string s, .string p] w fun e w' => e = .returned (.bool (Lib.hasPrefix s.data.toList p.data.toList)) ∧ w' = w := Any.strings_HasPrefix Tryz.lays99 s p w
def Tryz.lays100_ren : Go.Shelf.Ren := ⟨fun | 100 => 292 | 207 => 296 | n => n, fun | 9 => 9 | 4 => 4 | 3 => 3 | n => n, fun | n => n⟩
theorem Tryz.lays100 : Go.Proofs.Lays.n100 Tryz.prog Tryz.lays100_ren := {
  mixed := by kernel_rfl
  f100 := Tryz.func292.trans (congrArg some (by kernel_rfl))
  f207 := Tryz.func296.trans (congrArg some (by kernel_rfl))
  t3 := Tryz.underlying3
  a3 := Tryz.isAgg3
  z3 := Tryz.sizeOf3
  v3 := Tryz.zeroValue3
  t4 := Tryz.underlying4
  a4 := Tryz.isAgg4
  z4 := Tryz.sizeOf4
  v4 := Tryz.zeroValue4
  t9 := Tryz.underlying9
  a9 := Tryz.isAgg9
  z9 := Tryz.sizeOf9
  v9 := Tryz.zeroValue9 }
open Go.RowKit Go.Lib in
/-- strings.HasSuffix: "HasSuffix reports whether the string s ends with suffix.": IT RETURNS 'Lib.hasSuffix s suffix'; the world is as it was. ('hs': no Go string is longer: a caller has it of every string that it was handed.) (LAID: no walk: one application.) -/
theorem Tryz.strings_HasSuffix (s p : ByteArray) (w : World) (hs : s.size ≤ 9223372036854775807) :
    Calls Tryz.prog 292 #[.string s, .string p] w fun e w' => e = .returned (.bool (Lib.hasSuffix s.data.toList p.data.toList)) ∧ w' = w := Any.strings_HasSuffix Tryz.lays100 s p w hs
def Tryz.lays101_ren : Go.Shelf.Ren := ⟨fun | 101 => 259 | 208 => 284 | 206 => 214 | n => n, fun | 9 => 9 | 4 => 4 | 3 => 3 | n => n, fun | n => n⟩
theorem Tryz.lays101 : Go.Proofs.Lays.n101 Tryz.prog Tryz.lays101_ren := {
  mixed := by kernel_rfl
  f101 := Tryz.func259.trans (congrArg some (by kernel_rfl))
  f206 := Tryz.func214.trans (congrArg some (by kernel_rfl))
  f208 := Tryz.func284.trans (congrArg some (by kernel_rfl))
  t3 := Tryz.underlying3
  a3 := Tryz.isAgg3
  z3 := Tryz.sizeOf3
  v3 := Tryz.zeroValue3
  t4 := Tryz.underlying4
  a4 := Tryz.isAgg4
  z4 := Tryz.sizeOf4
  v4 := Tryz.zeroValue4
  t9 := Tryz.underlying9
  a9 := Tryz.isAgg9
  z9 := Tryz.sizeOf9
  v9 := Tryz.zeroValue9 }
open Go.RowKit Go.Lib in
/-- strings.TrimPrefix: "TrimPrefix returns s without the provided leading prefix string. If s doesn't start with prefix, s is returned unchanged.": IT RETURNS 'Lib.trimPrefix s prefix'; the world is as it was. (LAID: no walk: one application.) -/
theorem Tryz.strings_TrimPrefix (s p : ByteArray) (w : World) :
    Calls Tryz.prog 259 #[.string s, .string p] w fun e w' => e = .returned (.string ⟨(Lib.trimPrefix s.data.toList p.data.toList).toArray⟩) ∧ w' = w := Any.strings_TrimPrefix Tryz.lays101 s p w
def Tryz.lays146_ren : Go.Shelf.Ren := ⟨fun | 146 => 69 | 221 => 133 | 268 => 195 | 138 => 196 | 143 => 197 | 195 => 234 | 197 => 235 | 218 => 236 | 219 => 237 | 260 => 265 | 217 => 215 | 225 => 266 | 224 => 267 | 267 => 268 | 266 => 258 | 314 => 286 | n => n, fun | 9 => 9 | 31 => 55 | 3 => 3 | 4 => 4 | 0 => 0 | 105 => 224 | 21 => 21 | 5 => 5 | 46 => 142 | 119 => 248 | 139 => 251 | 138 => 250 | 146 => 252 | 51 => 193 | n => n, fun | 1 => 0 | 3 => 1 | 4 => 2 | n => n⟩
theorem Tryz.lays146 : Go.Proofs.Lays.n146 Tryz.prog Tryz.lays146_ren := {
  mixed := by kernel_rfl
  f138 := Tryz.func196.trans (congrArg some (by kernel_rfl))
  f143 := Tryz.func197.trans (congrArg some (by kernel_rfl))
  f146 := Tryz.func69.trans (congrArg some (by kernel_rfl))
  f195 := Tryz.func234.trans (congrArg some (by kernel_rfl))
  f197 := Tryz.func235.trans (congrArg some (by kernel_rfl))
  f217 := Tryz.func215.trans (congrArg some (by kernel_rfl))
  f218 := Tryz.func236.trans (congrArg some (by kernel_rfl))
  f219 := Tryz.func237.trans (congrArg some (by kernel_rfl))
  f221 := Tryz.func133.trans (congrArg some (by kernel_rfl))
  f224 := Tryz.func267.trans (congrArg some (by kernel_rfl))
  f225 := Tryz.func266.trans (congrArg some (by kernel_rfl))
  f260 := Tryz.func265.trans (congrArg some (by kernel_rfl))
  f266 := Tryz.func258.trans (congrArg some (by kernel_rfl))
  f267 := Tryz.func268.trans (congrArg some (by kernel_rfl))
  f268 := Tryz.func195.trans (congrArg some (by kernel_rfl))
  f314 := Tryz.func286.trans (congrArg some (by kernel_rfl))
  t0 := Tryz.underlying0
  a0 := Tryz.isAgg0
  z0 := Tryz.sizeOf0
  v0 := Tryz.zeroValue0
  t3 := Tryz.underlying3
  a3 := Tryz.isAgg3
  z3 := Tryz.sizeOf3
  v3 := Tryz.zeroValue3
  t4 := Tryz.underlying4
  a4 := Tryz.isAgg4
  z4 := Tryz.sizeOf4
  v4 := Tryz.zeroValue4
  t5 := Tryz.underlying5
  a5 := Tryz.isAgg5
  z5 := Tryz.sizeOf5
  v5 := Tryz.zeroValue5
  t9 := Tryz.underlying9
  a9 := Tryz.isAgg9
  z9 := Tryz.sizeOf9
  v9 := Tryz.zeroValue9
  t21 := Tryz.underlying21
  a21 := Tryz.isAgg21
  z21 := Tryz.sizeOf21
  v21 := Tryz.zeroValue21
  t31 := Tryz.underlying55
  a31 := Tryz.isAgg55
  z31 := Tryz.sizeOf55
  v31 := Tryz.zeroValue55
  t46 := Tryz.underlying142
  a46 := Tryz.isAgg142
  z46 := Tryz.sizeOf142
  v46 := Tryz.zeroValue142
  t51 := Tryz.underlying193
  a51 := Tryz.isAgg193
  z51 := Tryz.sizeOf193
  v51 := Tryz.zeroValue193
  t105 := Tryz.underlying224
  a105 := Tryz.isAgg224
  z105 := Tryz.sizeOf224
  v105 := Tryz.zeroValue224
  t119 := Tryz.underlying248
  a119 := Tryz.isAgg248
  z119 := Tryz.sizeOf248
  t138 := Tryz.underlying250
  a138 := Tryz.isAgg250
  z138 := Tryz.sizeOf250
  v138 := Tryz.zeroValue250
  t139 := Tryz.underlying251
  a139 := Tryz.isAgg251
  z139 := Tryz.sizeOf251
  v139 := Tryz.zeroValue251
  t146 := Tryz.underlying252
  a146 := Tryz.isAgg252
  z146 := Tryz.sizeOf252
  v146 := Tryz.zeroValue252
  g1 := by kernel_rfl
  g3 := by kernel_rfl
  g4 := by kernel_rfl }
open Go.RowKit Go.Lib in
/-- strings.Split. (LAID: no walk: one application.) -/
theorem Tryz.strings_Split (s sep : ByteArray) (m : Int) (w : World) (hs : s.size < 4294967281) (hm : w.cell? ⟨0, 0, none⟩ = some (.int .i64 m)) (h1 : 1 ≤ sep.size) :
    Calls Tryz.prog 69 #[.string s, .string sep] w fun e w' =>
      e = .returned (.slice (some ⟨w.heap.size, 0, none⟩) (Lib.countB s sep + 1) (Lib.countB s sep + 1)) ∧ w' = w.alloc (.cells ((Lib.splitB sep 0 (Lib.countB s sep) s).map Value.string).toArray 9) := Any.strings_Split Tryz.lays146 (by kernel_rfl) s sep m w hs hm h1
end Go.Proofs

