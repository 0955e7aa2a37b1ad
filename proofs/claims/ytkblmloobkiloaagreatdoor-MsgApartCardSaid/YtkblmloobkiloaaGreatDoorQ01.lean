/-
  Shelf B0: what the laws of package msg need of them.
-/
import Derived.Shelf.Strings.Builder1
import Derived.Shelf.Strings.Builder2
import Derived.Shelf.Strings.OnBuilder
import Derived.Shelf.Small.Strs
import Derived.Shelf.Strings.BuilderF
import Derived.Shelf.Strings.BuilderK
import Derived.Shelf.Strings.BuilderRune
import Derived.Shelf.Utf8.AppendRune
import Derived.Shelf.Utf8.AppendRunePlain
import Derived.Shelf.Strings.Builder2Cap
import Derived.Shelf.Strconv.Itoa0
import Derived.Shelf.Strconv.Itoa1
import Derived.Shelf.LaysM
import Derived.Shelf.Strconv.Itoa2
import Derived.Shelf.Strconv.Itoa3
import Derived.Shelf.Strconv.Clone
import Derived.Shelf.Strconv.SyntaxError
import Derived.Shelf.LaysC
import Derived.Shelf.Strconv.ToError
import Derived.Shelf.Strconv.Lower
import Derived.Shelf.Strconv.ParseUint10
import Derived.Shelf.Strconv.RangeError
import Derived.Shelf.Strconv.ToErrorRange
import Derived.Shelf.Strconv.ParseUintEmpty
import Derived.Shelf.Strconv.ParseUint10b64
import Derived.Shelf.Strconv.ParseUint10b32
import Derived.Shelf.Strconv.ParseUint10b16
import Derived.Shelf.Strconv.ParseUint10b8
import Derived.Shelf.Strconv.ParseUint10At
import Derived.Ground.MpProg
import Derived.Shelf.Pu.ParseUintPublic10
import Derived.Shelf.Pu.ErrVarParseUint
import Derived.Shelf.Strings.Search1
import Derived.Shelf.Strings.Prefix
import Derived.Shelf.Unicode.Decode
import Derived.Shelf.Unicode.DecodeSlow
import Derived.Shelf.Unicode.DecodeAny
import Derived.Shelf.Strings.BuilderCap
import Derived.Ground.Names2Prog
import Derived.Shelf.Slices.Clone
import Derived.Ground.SlgnProg
import Derived.Shelf.SlicesE.Clone
import Derived.Test.YtkblmloobkiloaaGreatDoorProg
import Derived.Below
import Derived.Laws.OwnMore
import Derived.Deep.AppendLies
import Derived.Deep.Draws
import Derived.Laws.Rows
import Derived.Maps.AppendAt
import Derived.RegionTactic
import Derived.OwnWalk
import Derived.WalkKit
import Derived.Lib.Hide
import Derived.Laws.Strings
import Derived.Laws.RangeAny
import Derived.Lib.DecodeN
import Derived.Lib.TrimU
import Derived.Test.YtkblmloobkiloaaGreatDoorRows
import Derived.Deep.QuietTactic
import Derived.BigQuiet
import Derived.Lib.OwnKind
import Derived.Lib.SplitLaws
import Derived.Maps.OwnSet
import Derived.Maps.Views
import Derived.DeepKeys4
import Derived.Laws.BitsAllLaws
namespace Go.Proofs
open Go.Shelf
def Tryz.lays169_ren : Go.Shelf.Ren := ⟨fun | 169 => 201 | n => n, fun | 70 => 195 | 9 => 9 | 0 => 0 | 72 => 197 | 37 => 22 | 127 => 229 | 3 => 3 | 5 => 5 | n => n, fun | n => n⟩
theorem Tryz.lays169 : Go.Proofs.Lays.n169 Tryz.prog Tryz.lays169_ren := {
  mixed := by kernel_rfl
  f169 := Tryz.func201.trans (congrArg some (by kernel_rfl))
  t0 := Tryz.underlying0
  a0 := Tryz.isAgg0
  z0 := Tryz.sizeOf0
  v0 := Tryz.zeroValue0
  t3 := Tryz.underlying3
  a3 := Tryz.isAgg3
  z3 := Tryz.sizeOf3
  v3 := Tryz.zeroValue3
  t9 := Tryz.underlying9
  a9 := Tryz.isAgg9
  z9 := Tryz.sizeOf9
  v9 := Tryz.zeroValue9
  t37 := Tryz.underlying22
  a37 := Tryz.isAgg22
  z37 := Tryz.sizeOf22
  v37 := Tryz.zeroValue22
  t70 := Tryz.underlying195
  a70 := Tryz.isAgg195
  z70 := Tryz.sizeOf195
  v70 := Tryz.zeroValue195
  t72 := Tryz.underlying197
  a72 := Tryz.isAgg197
  z72 := Tryz.sizeOf197
  v72 := Tryz.zeroValue197
  t127 := Tryz.underlying229
  a127 := Tryz.isAgg229
  z127 := Tryz.sizeOf229
  v127 := Tryz.zeroValue229 }
theorem Tryz.Builder_Extra_169 : Builder.Extra Tryz.prog Tryz.lays169_ren := {
  sizeBuilder := by kernel_rfl
  liesBuilder := by kernel_rfl
  t5 := Tryz.underlying5
  a5 := Tryz.isAgg5
  z5 := Tryz.sizeOf5
  v5 := Tryz.zeroValue5
  infoByte := by kernel_rfl
  cellsByte := by kernel_rfl
  sizeByte := by kernel_rfl
  neB5 := by decide }
def Tryz.lays156_ren : Go.Shelf.Ren := ⟨fun | 156 => 257 | 165 => 279 | 166 => 200 | 169 => 201 | 240 => 252 | 241 => 288 | 276 => 276 | 277 => 290 | n => n, fun | 31 => 33 | 9 => 9 | 3 => 3 | 4 => 4 | 0 => 0 | 20 => 20 | 72 => 197 | 76 => 199 | 70 => 195 | 37 => 22 | 75 => 186 | 127 => 229 | 164 => 247 | 5 => 5 | 80 => 144 | n => n, fun | n => n⟩
theorem Tryz.lays156 : Go.Proofs.Lays.n156 Tryz.prog Tryz.lays156_ren := {
  mixed := by kernel_rfl
  f156 := Tryz.func257.trans (congrArg some (by kernel_rfl))
  f165 := Tryz.func279.trans (congrArg some (by kernel_rfl))
  f166 := Tryz.func200.trans (congrArg some (by kernel_rfl))
  f169 := Tryz.func201.trans (congrArg some (by kernel_rfl))
  f240 := Tryz.func252.trans (congrArg some (by kernel_rfl))
  f241 := Tryz.func288.trans (congrArg some (by kernel_rfl))
  f276 := Tryz.func276.trans (congrArg some (by kernel_rfl))
  f277 := Tryz.func290.trans (congrArg some (by kernel_rfl))
  t0 := Tryz.underlying0
  a0 := Tryz.isAgg0
  z0 := Tryz.sizeOf0
  v0 := Tryz.zeroValue0
  t3 := Tryz.underlying3
  a3 := Tryz.isAgg3
  z3 := Tryz.sizeOf3
  v3 := Tryz.zeroValue3
  t4 := Tryz.underlying4
  a4 := Tryz.isAgg4
  z4 := Tryz.sizeOf4
  v4 := Tryz.zeroValue4
  t9 := Tryz.underlying9
  a9 := Tryz.isAgg9
  z9 := Tryz.sizeOf9
  v9 := Tryz.zeroValue9
  t20 := Tryz.underlying20
  a20 := Tryz.isAgg20
  z20 := Tryz.sizeOf20
  v20 := Tryz.zeroValue20
  t31 := Tryz.underlying33
  a31 := Tryz.isAgg33
  z31 := Tryz.sizeOf33
  v31 := Tryz.zeroValue33
  t37 := Tryz.underlying22
  a37 := Tryz.isAgg22
  z37 := Tryz.sizeOf22
  v37 := Tryz.zeroValue22
  t70 := Tryz.underlying195
  a70 := Tryz.isAgg195
  z70 := Tryz.sizeOf195
  v70 := Tryz.zeroValue195
  t72 := Tryz.underlying197
  a72 := Tryz.isAgg197
  z72 := Tryz.sizeOf197
  v72 := Tryz.zeroValue197
  t75 := Tryz.underlying186
  a75 := Tryz.isAgg186
  z75 := Tryz.sizeOf186
  v75 := Tryz.zeroValue186
  t76 := Tryz.underlying199
  a76 := Tryz.isAgg199
  z76 := Tryz.sizeOf199
  v76 := Tryz.zeroValue199
  t127 := Tryz.underlying229
  a127 := Tryz.isAgg229
  z127 := Tryz.sizeOf229
  v127 := Tryz.zeroValue229
  t164 := Tryz.underlying247
  a164 := Tryz.isAgg247
  z164 := Tryz.sizeOf247
  v164 := Tryz.zeroValue247 }
theorem Tryz.Builder_Extra_156 : Builder.Extra Tryz.prog Tryz.lays156_ren := {
  sizeBuilder := by kernel_rfl
  liesBuilder := by kernel_rfl
  t5 := Tryz.underlying5
  a5 := Tryz.isAgg5
  z5 := Tryz.sizeOf5
  v5 := Tryz.zeroValue5
  infoByte := by kernel_rfl
  cellsByte := by kernel_rfl
  sizeByte := by kernel_rfl
  neB5 := by decide }
open Go.RowKit in
/-- No element: the empty string; the world is as it was. (Whatever the slice's address and capacity: a nil slice too.) (LAID: no walk: one application.) -/
theorem Tryz.strings_Join_none (a : Option Addr) (c : Nat) (sep : ByteArray) (w : World) :
    Calls Tryz.prog 257 #[.slice a 0 c, .string sep] w fun e w' => e = .returned (.string ⟨#[]⟩) ∧ w' = w := Any.strings_Join_none Tryz.lays156 Tryz.Builder_Extra_156 a c sep w
open Go.RowKit in
/-- strings.Join: "Join concatenates the elements of its first argument to create a single string. The separator string sep is placed between elements in the resulting string.": HOWEVER MANY ELEMENTS. Below the heap's end the world is as it was. (LAID: no walk: one application.) -/
theorem Tryz.strings_Join (bk o c : Nat) (xs : List ByteArray) (sep : ByteArray) (w : World) (hcells : ∀ (j : Nat) x, xs[j]? = some x → w.cell? ⟨bk, o + j, none⟩ = some (.string x)) (hbk : bk < w.heap.size) (hN : xs.length ≤ 140737488355328) (hcap : xs.length ≤ c) (hlen : (Lib.join (xs.map (·.data.toList)) sep.data.toList).length ≤ 140737488355328) :
    Calls Tryz.prog 257 #[.slice (some ⟨bk, o, none⟩) xs.length c, .string sep] w fun e w' => e = .returned (.string ⟨(Lib.join (xs.map (·.data.toList)) sep.data.toList).toArray⟩) ∧ Below w.heap.size w w' := Any.strings_Join Tryz.lays156 Tryz.Builder_Extra_156 bk o c xs sep w hcells hbk hN hcap hlen
def Tryz.lays137_ren : Go.Shelf.Ren := ⟨fun | 137 => 254 | 217 => 278 | 266 => 287 | n => n, fun | 9 => 9 | 5 => 5 | 3 => 3 | n => n, fun | n => n⟩
theorem Tryz.lays137 : Go.Proofs.Lays.n137 Tryz.prog Tryz.lays137_ren := {
  mixed := by kernel_rfl
  f137 := Tryz.func254.trans (congrArg some (by kernel_rfl))
  f217 := Tryz.func278.trans (congrArg some (by kernel_rfl))
  f266 := Tryz.func287.trans (congrArg some (by kernel_rfl))
  t3 := Tryz.underlying3
  a3 := Tryz.isAgg3
  z3 := Tryz.sizeOf3
  v3 := Tryz.zeroValue3
  t5 := Tryz.underlying5
  a5 := Tryz.isAgg5
  z5 := Tryz.sizeOf5
  v5 := Tryz.zeroValue5
  t9 := Tryz.underlying9
  a9 := Tryz.isAgg9
  z9 := Tryz.sizeOf9
  v9 := Tryz.zeroValue9 }
open Go.RowKit in
/-- strings.IndexByte: "IndexByte returns the index of the first instance of c in s, or -1 if c is not present in s.": IT RETURNS 'Lib.indexByte s c'; the world is as it was. (LAID: no walk: one application.) -/
theorem Tryz.strings_IndexByte (s : ByteArray) (c : Int) (w : World) :
    Calls Tryz.prog 254 #[.string s, .int .u8 c] w fun e w' => e = .returned (.int .i64 (Lib.indexByte s.data.toList c.toNat.toUInt8)) ∧ w' = w := Any.strings_IndexByte Tryz.lays137 s c w
open Go.RowKit in
/-- (*strings.Builder).String: "String returns the accumulated string.": WHATEVER THE BUILDER HOLDS; THE FORM '_k': OVER 'Lib.IsBuilderF' (a builder that 'String()' may have read), AND WITH THE FRAME THAT REACHES ABOVE THE BUILDER: 'Lib.OthersKept': every block that is not b and is no row of uint8's stands as it stood: the iterator of a range among them. (LAID: no walk: one application.) -/
theorem Tryz.Builder_String_any_k (B b : Nat) (l : List UInt8) (w : World) (h : Lib.IsBuilderF 197 5 B b (Lib.byteCells l) w) (hBw : B ≤ w.heap.size) :
    Calls Tryz.prog 201 #[.pointer (some ⟨b, 0, none⟩)] w fun e w' => e = .returned (.string ⟨l.toArray⟩) ∧ (Lib.IsBuilderF 197 5 B b (Lib.byteCells l) w' ∧ Below B w w' ∧ Lib.OthersKept 5 (some b) w w') := Any.Builder_String_any_k Tryz.lays169 Tryz.Builder_Extra_169 B b l w h hBw
def Tryz.lays242_ren : Go.Shelf.Ren := ⟨fun | 242 => 253 | 278 => 277 | n => n, fun | 37 => 22 | 21 => 21 | 51 => 32 | 4 => 4 | 5 => 5 | 46 => 189 | n => n, fun | n => n⟩
theorem Tryz.lays242 : Go.Proofs.Lays.n242 Tryz.prog Tryz.lays242_ren := {
  mixed := by kernel_rfl
  f242 := Tryz.func253.trans (congrArg some (by kernel_rfl))
  f278 := Tryz.func277.trans (congrArg some (by kernel_rfl))
  t4 := Tryz.underlying4
  a4 := Tryz.isAgg4
  z4 := Tryz.sizeOf4
  v4 := Tryz.zeroValue4
  t5 := Tryz.underlying5
  a5 := Tryz.isAgg5
  z5 := Tryz.sizeOf5
  v5 := Tryz.zeroValue5
  t21 := Tryz.underlying21
  a21 := Tryz.isAgg21
  z21 := Tryz.sizeOf21
  v21 := Tryz.zeroValue21
  t37 := Tryz.underlying22
  a37 := Tryz.isAgg22
  z37 := Tryz.sizeOf22
  v37 := Tryz.zeroValue22
  t46 := Tryz.underlying189
  a46 := Tryz.isAgg189
  z46 := Tryz.sizeOf189
  v46 := Tryz.zeroValue189
  t51 := Tryz.underlying32
  a51 := Tryz.isAgg32
  z51 := Tryz.sizeOf32
  v51 := Tryz.zeroValue32 }
open Go.RowKit in
/-- unicode/utf8.AppendRune: "AppendRune appends the UTF-8 encoding of r to the end of p and returns the extended buffer. If the rune is out of range, it appends the encoding of RuneError.": ONTO A ROW OF BYTES THAT THE CALL OWNS (its head frozen or not): EVERY int32: 'Lib.runeCells r' goes in behind what the row holds; the world: one new block (the bytes as the call's variadic argument), then what 'append' does to the row. (LAID: no walk: one application.) -/
theorem Tryz.utf8_AppendRune_row (B : Nat) (v : Value) (n : Nat) (xs : List Value) (r : Int) (hr0 : -2147483648 ≤ r) (hr1 : r ≤ 2147483647) (w : World) (hown : w.ownsRowF B 5 1 v n xs) (hlen : n + 4 ≤ 140737488355328) (hBw : B ≤ w.heap.size) :
    Calls Tryz.prog 253 #[v, .int .i32 r] w fun e w' => ∃ v', e = .returned v' ∧ w'.ownsRowF B 5 1 v' (n + (Lib.runeCells r).length) (xs ++ Lib.runeCells r) ∧ ∃ o, (w.alloc o).grownBy w' v.ownBlock := Any.utf8_AppendRune_row Tryz.lays242 (by kernel_rfl) B v n xs r hr0 hr1 w hown hlen hBw
def Tryz.lays283_ren : Go.Shelf.Ren := ⟨fun | 283 => 247 | n => n, fun | 3 => 3 | 9 => 9 | 4 => 4 | n => n, fun | n => n⟩
theorem Tryz.lays283 : Go.Proofs.Lays.n283 Tryz.prog Tryz.lays283_ren := {
  mixed := by kernel_rfl
  f283 := Tryz.func247.trans (congrArg some (by kernel_rfl))
  t3 := Tryz.underlying3
  a3 := Tryz.isAgg3
  z3 := Tryz.sizeOf3
  v3 := Tryz.zeroValue3
  t4 := Tryz.underlying4
  a4 := Tryz.isAgg4
  z4 := Tryz.sizeOf4
  v4 := Tryz.zeroValue4
  t9 := Tryz.underlying9
  a9 := Tryz.isAgg9
  z9 := Tryz.sizeOf9
  v9 := Tryz.zeroValue9 }
open Go.Lib in
/-- internal/strconv.small: "small returns the string for an i with 0 <= i < nSmalls.": i's decimal numeral. The world is as it was. (LAID: no walk: one application.) -/
theorem Tryz.internal_strconv_small (i : Nat) (h : i < 100) (w : World) :
    Calls Tryz.prog 247 #[.int .i64 i] w fun e w' => e = .returned (.string ⟨(Lib.decDigits i).toArray⟩) ∧ w' = w := Any.internal_strconv_small Tryz.lays283 i h w
def Tryz.laysM284_ren : Go.Shelf.Ren := ⟨fun | 284 => 248 | 129 => 271 | 317 => 270 | 318 => 272 | n => n, fun | 53 => 35 | 3 => 3 | 212 => 244 | 0 => 0 | 4 => 4 | 46 => 189 | 5 => 5 | 9 => 9 | n => n, fun | 17 => 0 | n => n⟩
theorem Tryz.laysM284 : Go.Proofs.LaysM.n284 Tryz.prog Tryz.laysM284_ren := {
  mixed := by kernel_rfl
  f129 := Tryz.func271.trans (congrArg some (by kernel_rfl))
  f284 := Tryz.func248.trans (congrArg some (by kernel_rfl))
  f317 := Tryz.func270.trans (congrArg some (by kernel_rfl))
  f318 := Tryz.func272.trans (congrArg some (by kernel_rfl))
  t0 := Tryz.underlying0
  a0 := Tryz.isAgg0
  z0 := Tryz.sizeOf0
  v0 := Tryz.zeroValue0
  t3 := Tryz.underlying3
  a3 := Tryz.isAgg3
  z3 := Tryz.sizeOf3
  v3 := Tryz.zeroValue3
  t4 := Tryz.underlying4
  a4 := Tryz.isAgg4
  z4 := Tryz.sizeOf4
  v4 := Tryz.zeroValue4
  t5 := Tryz.underlying5
  a5 := Tryz.isAgg5
  z5 := Tryz.sizeOf5
  v5 := Tryz.zeroValue5
  t9 := Tryz.underlying9
  a9 := Tryz.isAgg9
  z9 := Tryz.sizeOf9
  v9 := Tryz.zeroValue9
  t46 := Tryz.underlying189
  a46 := Tryz.isAgg189
  z46 := Tryz.sizeOf189
  v46 := Tryz.zeroValue189
  t53 := Tryz.underlying35
  a53 := Tryz.isAgg35
  z53 := Tryz.sizeOf35
  v53 := Tryz.zeroValue35
  t212 := Tryz.underlying244
  a212 := Tryz.isAgg244
  z212 := Tryz.sizeOf244
  v212 := Tryz.zeroValue244
  g17 := by kernel_rfl
  i0 := by kernel_rfl
  i3 := by kernel_rfl
  i4 := by kernel_rfl
  i5 := by kernel_rfl
  i9 := by kernel_rfl
  i46 := by kernel_rfl
  i53 := by kernel_rfl
  i212 := by kernel_rfl
  m17 := by kernel_rfl }
open Go.Lib in
/-- internal/strconv.numDigits, at a d that is not 0: THE NUMBER OF d's DECIMAL DIGITS. The world is as it was. (LAID: no walk: one application.) -/
theorem Tryz.internal_strconv_numDigits (u : Nat) (h1 : 1 ≤ u) (h2 : u < 18446744073709551616) (w : World) (htab : Lib.TabIs Tryz.prog w "internal/strconv.uint64pow10" .u64 Lib.pow10Tab) :
    Calls Tryz.prog 248 #[.int .u64 u] w fun e w' => e = .returned (.int .i64 (Lib.nDigits u)) ∧ w' = w := Any.internal_strconv_numDigits Tryz.laysM284 u h1 h2 w htab
def Tryz.lays285_ren : Go.Shelf.Ren := ⟨fun | 285 => 249 | n => n, fun | 37 => 22 | 53 => 35 | 3 => 3 | 4 => 4 | 51 => 32 | 9 => 9 | 5 => 5 | 0 => 0 | n => n, fun | n => n⟩
theorem Tryz.lays285 : Go.Proofs.Lays.n285 Tryz.prog Tryz.lays285_ren := {
  mixed := by kernel_rfl
  f285 := Tryz.func249.trans (congrArg some (by kernel_rfl))
  t0 := Tryz.underlying0
  a0 := Tryz.isAgg0
  z0 := Tryz.sizeOf0
  v0 := Tryz.zeroValue0
  t3 := Tryz.underlying3
  a3 := Tryz.isAgg3
  z3 := Tryz.sizeOf3
  v3 := Tryz.zeroValue3
  t4 := Tryz.underlying4
  a4 := Tryz.isAgg4
  z4 := Tryz.sizeOf4
  v4 := Tryz.zeroValue4
  t5 := Tryz.underlying5
  a5 := Tryz.isAgg5
  z5 := Tryz.sizeOf5
  v5 := Tryz.zeroValue5
  t9 := Tryz.underlying9
  a9 := Tryz.isAgg9
  z9 := Tryz.sizeOf9
  v9 := Tryz.zeroValue9
  t37 := Tryz.underlying22
  a37 := Tryz.isAgg22
  z37 := Tryz.sizeOf22
  v37 := Tryz.zeroValue22
  t51 := Tryz.underlying32
  a51 := Tryz.isAgg32
  z51 := Tryz.sizeOf32
  v51 := Tryz.zeroValue32
  t53 := Tryz.underlying35
  a53 := Tryz.isAgg35
  z53 := Tryz.sizeOf35
  v53 := Tryz.zeroValue35 }
open Go.RowKit Go.Sort Go.Lib in
/-- internal/strconv.formatBase10: "formatBase10 formats the decimal representation of u into a. The caller is responsible for ensuring that a is big enough to hold u. If a is too big, leading zeros will be filled in as needed.": THE ROW HOLDS u's DIGITS ('FmtInv .. 0 ..': every place t holds 'dg u (len - 1 - t)'); all else is as it was but for the count of draws. (LAID: no walk: one application.) -/
theorem Tryz.internal_strconv_formatBase10 (blk off cap : Nat) (u : Nat) (d : Array UInt8) (w : World) (hH : Holds (fun (b : UInt8) => Value.int .u8 (b.toNat : Int)) w blk off d) (hu : u < 10 ^ d.size) (hu64 : u < 18446744073709551616) (hsz : d.size < 4611686018427387904) :
    Calls Tryz.prog 249 #[.slice (some ⟨blk, off, none⟩) d.size cap, .int .u64 u] w fun e w' =>
      e = .returned (.tuple #[]) ∧ ∃ (n v' : Nat) (dk : Array UInt8), w' = (putRow (fun (b : UInt8) => Value.int .u8 (b.toNat : Int)) w blk off dk).drewN n ∧ FmtInv d.size u 0 v' dk := Any.internal_strconv_formatBase10 Tryz.lays285 blk off cap u d w hH hu hu64 hsz
def Tryz.laysPu14_ren : Go.Shelf.Ren := ⟨fun | 14 => 189 | 16 => 245 | 17 => 246 | 19 => 264 | 20 => 265 | 21 => 266 | 22 => 267 | 23 => 268 | 24 => 269 | 25 => 282 | 27 => 284 | 26 => 283 | 28 => 289 | 29 => 291 | 30 => 247 | 31 => 248 | 32 => 249 | 33 => 250 | 35 => 271 | 34 => 270 | 36 => 272 | 37 => 273 | 38 => 274 | 39 => 285 | 40 => 286 | n => n, fun | 9 => 9 | 3 => 3 | 22 => 35 | 24 => 186 | 25 => 187 | 4 => 4 | 34 => 238 | 5 => 5 | 36 => 189 | 37 => 22 | 0 => 0 | 39 => 239 | 21 => 21 | 44 => 252 | 47 => 229 | 50 => 261 | 48 => 259 | 2 => 2 | 52 => 221 | 55 => 224 | 59 => 244 | 60 => 32 | 20 => 20 | 61 => 245 | 65 => 262 | 66 => 263 | 67 => 144 | n => n, fun | 0 => 1 | 1 => 2 | 2 => 0 | 3 => 5 | 4 => 6 | n => n⟩
theorem Tryz.laysPu14 : Go.Proofs.LaysPu.n14 Tryz.prog Tryz.laysPu14_ren := {
  mixed := by kernel_rfl
  f14 := Tryz.func189.trans (congrArg some (by kernel_rfl))
  f16 := Tryz.func245.trans (congrArg some (by kernel_rfl))
  f17 := Tryz.func246.trans (congrArg some (by kernel_rfl))
  f19 := Tryz.func264.trans (congrArg some (by kernel_rfl))
  f20 := Tryz.func265.trans (congrArg some (by kernel_rfl))
  f21 := Tryz.func266.trans (congrArg some (by kernel_rfl))
  f22 := Tryz.func267.trans (congrArg some (by kernel_rfl))
  f23 := Tryz.func268.trans (congrArg some (by kernel_rfl))
  f24 := Tryz.func269.trans (congrArg some (by kernel_rfl))
  f25 := Tryz.func282.trans (congrArg some (by kernel_rfl))
  f26 := Tryz.func283.trans (congrArg some (by kernel_rfl))
  f27 := Tryz.func284.trans (congrArg some (by kernel_rfl))
  f28 := Tryz.func289.trans (congrArg some (by kernel_rfl))
  f29 := Tryz.func291.trans (congrArg some (by kernel_rfl))
  f30 := Tryz.func247.trans (congrArg some (by kernel_rfl))
  f31 := Tryz.func248.trans (congrArg some (by kernel_rfl))
  f32 := Tryz.func249.trans (congrArg some (by kernel_rfl))
  f33 := Tryz.func250.trans (congrArg some (by kernel_rfl))
  f34 := Tryz.func270.trans (congrArg some (by kernel_rfl))
  f35 := Tryz.func271.trans (congrArg some (by kernel_rfl))
  f36 := Tryz.func272.trans (congrArg some (by kernel_rfl))
  f37 := Tryz.func273.trans (congrArg some (by kernel_rfl))
  f38 := Tryz.func274.trans (congrArg some (by kernel_rfl))
  f39 := Tryz.func285.trans (congrArg some (by kernel_rfl))
  f40 := Tryz.func286.trans (congrArg some (by kernel_rfl))
  t0 := Tryz.underlying0
  a0 := Tryz.isAgg0
  z0 := Tryz.sizeOf0
  v0 := Tryz.zeroValue0
  i0 := by kernel_rfl
  t2 := Tryz.underlying2
  a2 := Tryz.isAgg2
  z2 := Tryz.sizeOf2
  v2 := Tryz.zeroValue2
  i2 := by kernel_rfl
  t3 := Tryz.underlying3
  a3 := Tryz.isAgg3
  z3 := Tryz.sizeOf3
  v3 := Tryz.zeroValue3
  i3 := by kernel_rfl
  t4 := Tryz.underlying4
  a4 := Tryz.isAgg4
  z4 := Tryz.sizeOf4
  v4 := Tryz.zeroValue4
  i4 := by kernel_rfl
  t5 := Tryz.underlying5
  a5 := Tryz.isAgg5
  z5 := Tryz.sizeOf5
  v5 := Tryz.zeroValue5
  i5 := by kernel_rfl
  t9 := Tryz.underlying9
  a9 := Tryz.isAgg9
  z9 := Tryz.sizeOf9
  v9 := Tryz.zeroValue9
  i9 := by kernel_rfl
  t20 := Tryz.underlying20
  a20 := Tryz.isAgg20
  z20 := Tryz.sizeOf20
  v20 := Tryz.zeroValue20
  i20 := by kernel_rfl
  t21 := Tryz.underlying21
  a21 := Tryz.isAgg21
  z21 := Tryz.sizeOf21
  v21 := Tryz.zeroValue21
  i21 := by kernel_rfl
  t22 := Tryz.underlying35
  a22 := Tryz.isAgg35
  z22 := Tryz.sizeOf35
  v22 := Tryz.zeroValue35
  i22 := by kernel_rfl
  t24 := Tryz.underlying186
  a24 := Tryz.isAgg186
  z24 := Tryz.sizeOf186
  v24 := Tryz.zeroValue186
  i24 := by kernel_rfl
  t25 := Tryz.underlying187
  a25 := Tryz.isAgg187
  z25 := Tryz.sizeOf187
  v25 := Tryz.zeroValue187
  i25 := by kernel_rfl
  t34 := Tryz.underlying238
  a34 := Tryz.isAgg238
  z34 := Tryz.sizeOf238
  v34 := Tryz.zeroValue238
  i34 := by kernel_rfl
  c34 := by kernel_rfl
  t36 := Tryz.underlying189
  a36 := Tryz.isAgg189
  z36 := Tryz.sizeOf189
  v36 := Tryz.zeroValue189
  i36 := by kernel_rfl
  t37 := Tryz.underlying22
  a37 := Tryz.isAgg22
  z37 := Tryz.sizeOf22
  v37 := Tryz.zeroValue22
  i37 := by kernel_rfl
  t39 := Tryz.underlying239
  a39 := Tryz.isAgg239
  z39 := Tryz.sizeOf239
  v39 := Tryz.zeroValue239
  i39 := by kernel_rfl
  t44 := Tryz.underlying252
  a44 := Tryz.isAgg252
  z44 := Tryz.sizeOf252
  v44 := Tryz.zeroValue252
  i44 := by kernel_rfl
  t47 := Tryz.underlying229
  a47 := Tryz.isAgg229
  z47 := Tryz.sizeOf229
  v47 := Tryz.zeroValue229
  i47 := by kernel_rfl
  t48 := Tryz.underlying259
  a48 := Tryz.isAgg259
  z48 := Tryz.sizeOf259
  v48 := Tryz.zeroValue259
  i48 := by kernel_rfl
  t50 := Tryz.underlying261
  a50 := Tryz.isAgg261
  z50 := Tryz.sizeOf261
  v50 := Tryz.zeroValue261
  i50 := by kernel_rfl
  t52 := Tryz.underlying221
  a52 := Tryz.isAgg221
  z52 := Tryz.sizeOf221
  v52 := Tryz.zeroValue221
  i52 := by kernel_rfl
  t55 := Tryz.underlying224
  a55 := Tryz.isAgg224
  z55 := Tryz.sizeOf224
  v55 := Tryz.zeroValue224
  i55 := by kernel_rfl
  t59 := Tryz.underlying244
  a59 := Tryz.isAgg244
  z59 := Tryz.sizeOf244
  v59 := Tryz.zeroValue244
  i59 := by kernel_rfl
  t60 := Tryz.underlying32
  a60 := Tryz.isAgg32
  z60 := Tryz.sizeOf32
  v60 := Tryz.zeroValue32
  i60 := by kernel_rfl
  t61 := Tryz.underlying245
  a61 := Tryz.isAgg245
  z61 := Tryz.sizeOf245
  t65 := Tryz.underlying262
  a65 := Tryz.isAgg262
  z65 := Tryz.sizeOf262
  v65 := Tryz.zeroValue262
  i65 := by kernel_rfl
  t66 := Tryz.underlying263
  a66 := Tryz.isAgg263
  z66 := Tryz.sizeOf263
  v66 := Tryz.zeroValue263
  i66 := by kernel_rfl
  t67 := Tryz.underlying144
  a67 := Tryz.isAgg144
  z67 := Tryz.sizeOf144
  v67 := Tryz.zeroValue144
  i67 := by kernel_rfl
  g0 := by kernel_rfl
  m0 := by kernel_rfl
  g1 := by kernel_rfl
  m1 := by kernel_rfl
  g2 := by kernel_rfl
  m2 := by kernel_rfl
  g3 := by kernel_rfl
  m3 := by kernel_rfl
  g4 := by kernel_rfl
  m4 := by kernel_rfl }
open Go.RowKit in
/-- strconv.ParseUint(s, 10, 64), AT EVERY STRING THAT SPELLS A uint64 ('Lib.parseUintB 64 s.data.toList = .ok u'): u, AND NO ERROR. (LAID: no walk: one application.) -/
theorem Tryz.strconv_ParseUint_10_at64_ok (s : ByteArray) (hmax : s.size ≤ 9223372036854775806) (u : Nat) (h : Lib.parseUintB 64 s.data.toList = .ok u) (w : World) :
    Calls Tryz.prog 189 #[.string s, .int .i64 10, .int .i64 64] w fun e w' => e = .returned (.tuple #[.int .u64 u, .nilIface]) ∧ (w' = w ∨ w' = Lib.bytesWorld w 5 s) := Any.strconv_ParseUint_10_at64_ok Tryz.laysPu14 s hmax u h w
open Go.RowKit in
/-- strconv.ParseUint(s, 10, 64), AT EVERY NUMERAL THAT NO uint64 HOLDS: THE GREATEST uint64, AND AN ERROR THAT IS NOT nil: a *NumError in a new block N: {Func: "ParseUint", Num: s's bytes, Err: what the variable ErrRange holds}. Of what was there nothing has turned. (LAID: no walk: one application.) -/
theorem Tryz.strconv_ParseUint_10_at64_range (s : ByteArray) (hlim : s.size ≤ 281474976710656) (h : Lib.parseUintB 64 s.data.toList = .range) (ev : Value) (w : World) (hv : w.cell? ⟨2, 0, none⟩ = some ev) (hev : ev = .nilIface ∨ ∃ te pe, ev = .iface te pe) :
    Calls Tryz.prog 189 #[.string s, .int .i64 10, .int .i64 64] w fun e w' => ∃ N, e = .returned (.tuple #[.int .u64 18446744073709551615, .iface 239 (.pointer (some ⟨N, 0, none⟩))]) ∧ w.heap.size ≤ N ∧ w'.heap[N]? = some (.cells #[.string ⟨#[80, 97, 114, 115, 101, 85, 105, 110, 116]⟩, .string s, ev] 252 (0, 0)) ∧ Below w.heap.size w w' := Any.strconv_ParseUint_10_at64_range Tryz.laysPu14 s hlim h ev w hv hev
def Tryz.lays99_ren : Go.Shelf.Ren := ⟨fun | 99 => 187 | 206 => 244 | n => n, fun | 9 => 9 | 4 => 4 | 3 => 3 | n => n, fun | n => n⟩
theorem Tryz.lays99 : Go.Proofs.Lays.n99 Tryz.prog Tryz.lays99_ren := {
  mixed := by kernel_rfl
  f99 := Tryz.func187.trans (congrArg some (by kernel_rfl))
  f206 := Tryz.func244.trans (congrArg some (by kernel_rfl))
  t3 := Tryz.underlying3
  a3 := Tryz.isAgg3
  z3 := Tryz.sizeOf3
  v3 := Tryz.zeroValue3
  t4 := Tryz.underlying4
  a4 := Tryz.isAgg4
  z4 := Tryz.sizeOf4
  v4 := Tryz.zeroValue4
  t9 := Tryz.underlying9
  a9 := Tryz.isAgg9
  z9 := Tryz.sizeOf9
  v9 := Tryz.zeroValue9 }
open Go.RowKit Go.Lib in
/-- strings.HasPrefix: "HasPrefix reports whether the string s begins with prefix.": IT RETURNS 'Lib.hasPrefix s prefix'; the world is as it was. (LAID: no walk: one application.) -/
theorem Tryz.strings_HasPrefix (s p : ByteArray) (w : World) :
    Calls Tryz.prog 187 #[.string s, .string p] w fun e w' => e = .returned (.bool (Lib.hasPrefix s.data.toList p.data.toList)) ∧ w' = w := Any.strings_HasPrefix Tryz.lays99 s p w
def Tryz.lays197_ren : Go.Shelf.Ren := ⟨fun | 197 => 251 | 260 => 275 | n => n, fun | 9 => 9 | 21 => 21 | 3 => 3 | 4 => 4 | 5 => 5 | 105 => 226 | 119 => 255 | 0 => 0 | 46 => 189 | 139 => 258 | 138 => 257 | n => n, fun | 3 => 3 | 4 => 4 | n => n⟩
theorem Tryz.lays197 : Go.Proofs.Lays.n197 Tryz.prog Tryz.lays197_ren := {
  mixed := by kernel_rfl
  f197 := Tryz.func251.trans (congrArg some (by kernel_rfl))
  f260 := Tryz.func275.trans (congrArg some (by kernel_rfl))
  t0 := Tryz.underlying0
  a0 := Tryz.isAgg0
  z0 := Tryz.sizeOf0
  v0 := Tryz.zeroValue0
  t3 := Tryz.underlying3
  a3 := Tryz.isAgg3
  z3 := Tryz.sizeOf3
  v3 := Tryz.zeroValue3
  t4 := Tryz.underlying4
  a4 := Tryz.isAgg4
  z4 := Tryz.sizeOf4
  v4 := Tryz.zeroValue4
  t5 := Tryz.underlying5
  a5 := Tryz.isAgg5
  z5 := Tryz.sizeOf5
  v5 := Tryz.zeroValue5
  t9 := Tryz.underlying9
  a9 := Tryz.isAgg9
  z9 := Tryz.sizeOf9
  v9 := Tryz.zeroValue9
  t21 := Tryz.underlying21
  a21 := Tryz.isAgg21
  z21 := Tryz.sizeOf21
  v21 := Tryz.zeroValue21
  t46 := Tryz.underlying189
  a46 := Tryz.isAgg189
  z46 := Tryz.sizeOf189
  v46 := Tryz.zeroValue189
  t105 := Tryz.underlying226
  a105 := Tryz.isAgg226
  z105 := Tryz.sizeOf226
  v105 := Tryz.zeroValue226
  t119 := Tryz.underlying255
  a119 := Tryz.isAgg255
  z119 := Tryz.sizeOf255
  t138 := Tryz.underlying257
  a138 := Tryz.isAgg257
  z138 := Tryz.sizeOf257
  v138 := Tryz.zeroValue257
  t139 := Tryz.underlying258
  a139 := Tryz.isAgg258
  z139 := Tryz.sizeOf258
  v139 := Tryz.zeroValue258
  g3 := by kernel_rfl
  g4 := by kernel_rfl }
def Tryz.lays260_ren : Go.Shelf.Ren := ⟨fun | 260 => 275 | n => n, fun | 9 => 9 | 21 => 21 | 3 => 3 | 4 => 4 | 5 => 5 | 119 => 255 | 0 => 0 | 46 => 189 | 139 => 258 | 138 => 257 | n => n, fun | 3 => 3 | 4 => 4 | n => n⟩
theorem Tryz.lays260 : Go.Proofs.Lays.n260 Tryz.prog Tryz.lays260_ren := {
  mixed := by kernel_rfl
  f260 := Tryz.func275.trans (congrArg some (by kernel_rfl))
  t0 := Tryz.underlying0
  a0 := Tryz.isAgg0
  z0 := Tryz.sizeOf0
  v0 := Tryz.zeroValue0
  t3 := Tryz.underlying3
  a3 := Tryz.isAgg3
  z3 := Tryz.sizeOf3
  v3 := Tryz.zeroValue3
  t4 := Tryz.underlying4
  a4 := Tryz.isAgg4
  z4 := Tryz.sizeOf4
  v4 := Tryz.zeroValue4
  t5 := Tryz.underlying5
  a5 := Tryz.isAgg5
  z5 := Tryz.sizeOf5
  v5 := Tryz.zeroValue5
  t9 := Tryz.underlying9
  a9 := Tryz.isAgg9
  z9 := Tryz.sizeOf9
  v9 := Tryz.zeroValue9
  t21 := Tryz.underlying21
  a21 := Tryz.isAgg21
  z21 := Tryz.sizeOf21
  v21 := Tryz.zeroValue21
  t46 := Tryz.underlying189
  a46 := Tryz.isAgg189
  z46 := Tryz.sizeOf189
  v46 := Tryz.zeroValue189
  t119 := Tryz.underlying255
  a119 := Tryz.isAgg255
  z119 := Tryz.sizeOf255
  t138 := Tryz.underlying257
  a138 := Tryz.isAgg257
  z138 := Tryz.sizeOf257
  v138 := Tryz.zeroValue257
  t139 := Tryz.underlying258
  a139 := Tryz.isAgg258
  z139 := Tryz.sizeOf258
  v139 := Tryz.zeroValue258
  g3 := by kernel_rfl
  g4 := by kernel_rfl }
open Go.RowKit Go.Lib in
/-- **unicode/utf8.DecodeRuneInString AT EVERY STRING.** (LAID: no walk: one application.) -/
theorem Tryz.utf8_DecodeRuneInString (s : ByteArray) (w : World) (hT : Lib.Utf8Tabs 3 4 w) :
    Calls Tryz.prog 251 #[.string s] w fun e w' => e = .returned (.tuple #[.int .i32 (Lib.decodeGo s).1, .int .i64 (Lib.decodeGo s).2]) ∧ Below w.heap.size w w' := Any.utf8_DecodeRuneInString Tryz.lays197 s w hT
end Go.Proofs
namespace Go.Proofs.YtkblmloobkiloaaGreatDoor
open Go.RowKit

theorem block_of_add (a : Addr) (n : Nat) : (a.add n).block = a.block := by unfold Addr.add; split <;> rfl
theorem add_of_add (a : Addr) (i j : Nat) : (a.add i).add j = a.add (i + j) := by
  unfold Addr.add
  by_cases hi : i = 0 <;> by_cases hj : j = 0 <;> simp [hi, hj, Nat.add_assoc]

def Reads (w : World) (B size : Nat) (A : Option Addr) (n : Nat) (xs : List Value) : Prop :=
  xs.length = n * size ∧ (0 < n → ∃ ad, A = some ad ∧ ad.block < B ∧ ∀ j u, xs[j]? = some u → w.cell? (ad.add j) = some u)

section
variable {w w' : World} {B B' size n : Nat} {A : Option Addr} {xs : List Value}
theorem Reads.none_ : Reads w B size A 0 [] := ⟨by simp, fun h => absurd h (by omega)⟩
theorem Reads.at_ {k : Nat} (h : Reads w B 1 A n xs) (hk : k < n) : ∃ ad u, A = some ad ∧ ad.block < B ∧ xs[k]? = some u ∧ w.cell? (ad.add k) = some u := by
  obtain ⟨ad, e, hb, hc⟩ := h.2 (by omega)
  have hl : k < xs.length := by have := h.1; omega
  exact ⟨ad, xs[k], e, hb, List.getElem?_eq_getElem hl, hc k _ (List.getElem?_eq_getElem hl)⟩
theorem Reads.keep (h : Reads w B size A n xs) (hk : ∀ p : Addr, p.block < B → w'.cell? p = w.cell? p) : Reads w' B size A n xs :=
  ⟨h.1, fun hn => by
    obtain ⟨ad, e, hb, hc⟩ := h.2 hn
    exact ⟨ad, e, hb, fun j u hu => (hk _ (by rw [block_of_add]; exact hb)).trans (hc j u hu)⟩⟩
theorem Reads.more (h : Reads w B size A n xs) (hB : B ≤ B') : Reads w B' size A n xs :=
  ⟨h.1, fun hn => by
    obtain ⟨ad, e, hb, hc⟩ := h.2 hn
    exact ⟨ad, e, by omega, hc⟩⟩
theorem Reads.below (h : Reads w B size A n xs) (hb : Below B w w') : Reads w' B size A n xs := h.keep fun _ hp => hb.cell hp
theorem Reads.drew (h : Reads w B size A n xs) : Reads w.drew B size A n xs := h
theorem Reads.drewN (h : Reads w B size A n xs) (k : Nat) : Reads (w.drewN k) B size A n xs := h
theorem Reads.alloc (h : Reads w B size A n xs) (hB : B ≤ w.heap.size) (o : Obj) : Reads (w.alloc o) B size A n xs := h.keep fun p hp => World.cell?_alloc_lt w o p (by omega)
theorem Reads.setCell (h : Reads w B size A n xs) {p : Addr} (hB : B ≤ p.block) (u : Value) : Reads (w.setCell p u) B size A n xs :=
  h.keep fun q hq => World.cell?_setCell_other w p q u (fun e => by subst e; omega)
theorem Reads.grown (h : Reads w B size A n xs) {row : Option Nat} (hg : w.grownBy w' row) (hB : B ≤ w.heap.size) (hr : ∀ g, row = some g → B ≤ g) : Reads w' B size A n xs :=
  h.keep fun p hp => World.cell?_of_block (hg.block p.block (by omega) (fun e => by have := hr _ e.symm; omega))
theorem Reads.cut (h : Reads w B size A n xs) {k cap : Nat} (hk : k ≤ n) (hc : n ≤ cap) :
    Reads w B size (if cap = k then A else A.map (·.add (k * size))) (n - k) (xs.drop (k * size)) := by
  refine ⟨by rw [List.length_drop, h.1, Nat.sub_mul], fun hn => ?_⟩
  obtain ⟨ad, rfl, hb, hcell⟩ := h.2 (by omega)
  rw [if_neg (by omega)]
  refine ⟨ad.add (k * size), rfl, by rw [block_of_add]; exact hb, fun j u hu => ?_⟩
  rw [add_of_add]
  exact hcell _ u (by rw [← hu, List.getElem?_drop])
theorem Reads.of_own {base : Nat} {e : TypeId} {c : Nat} (h : w.ownsRow base e size (.slice A n c) n xs) : Reads w w.heap.size size A n xs := by
  refine ⟨h.1, fun hn => ?_⟩
  obtain ⟨g, cap, hv, _, hlt⟩ := h.form hn
  have hA : A = some ⟨g, 0, none⟩ := by injection hv
  subst hA
  exact ⟨_, rfl, hlt, h.cells (g := g) rfl⟩
end

def Blk (w : World) (g : Nat) (t : TypeId) (cs : Array Value) : Prop := w.heap[g]? = some (.cells cs t (0, 0))

section
variable {w w' : World} {g : Nat} {t : TypeId} {cs : Array Value}
theorem Blk.lt (h : Blk w g t cs) : g < w.heap.size := by
  rcases Nat.lt_or_ge g w.heap.size with hlt | hge
  · exact hlt
  · unfold Blk at h; rw [Array.getElem?_eq_none hge] at h; cases h
theorem Blk.cell (h : Blk w g t cs) (i : Nat) : w.cell? ⟨g, i, none⟩ = cs[i]? := cell_of_row w g i cs t (0, 0) h
theorem Blk.frozen (h : Blk w g t cs) (i : Nat) : w.frozen? ⟨g, i, none⟩ = false := by
  unfold Blk at h
  simp [World.frozen?, h]
theorem Blk.new (w : World) (t : TypeId) (cs : Array Value) : Blk (w.alloc (.cells cs t)) w.heap.size t cs := heap_alloc_new w _
theorem Blk.drew (h : Blk w g t cs) : Blk w.drew g t cs := h
theorem Blk.drewN (h : Blk w g t cs) (n : Nat) : Blk (w.drewN n) g t cs := h
theorem Blk.alloc (h : Blk w g t cs) (o : Obj) : Blk (w.alloc o) g t cs := (Below.heap_alloc w o g h.lt).trans h
theorem Blk.set_ (h : Blk w g t cs) (i : Nat) (u : Value) : Blk (w.setCell ⟨g, i, none⟩ u) g t (cs.setIfInBounds i u) := by
  unfold Blk at h ⊢
  simp [World.setCell, Array.getElem?_modify, h]
theorem Blk.far (h : Blk w g t cs) {p : Addr} (hp : g ≠ p.block) (u : Value) : Blk (w.setCell p u) g t cs := (Below.heap_setCell w p u g hp).trans h
theorem Blk.below {B : Nat} (h : Blk w g t cs) (hb : Below B w w') (hg : g < B) : Blk w' g t cs := (hb.block g hg).trans h
theorem Blk.grown {row : Option Nat} (h : Blk w g t cs) (hb : w.grownBy w' row) (hg : some g ≠ row) : Blk w' g t cs := (hb.block g h.lt hg).trans h
theorem Blk.ne_ {g' : Nat} {t' : TypeId} {cs' : Array Value} (h : Blk w g t cs) (h' : Blk w g' t' cs') (hne : t ≠ t') : g ≠ g' := by
  rintro rfl
  unfold Blk at h h'
  rw [h] at h'
  injection h' with h'
  injection h' with _ ht
  exact hne ht
theorem own_blk_ne {base : Nat} {e : TypeId} {size n : Nat} {v : Value} {xs : List Value} (h : w.ownsRow base e size v n xs) (hg : Blk w g t cs) (hne : e ≠ t) : v.ownBlock ≠ some g := by
  rcases h.2 with ⟨rfl, _⟩ | ⟨g', cap, cur, rfl, _, hh, _⟩
  · simp [Value.ownBlock]
  · intro he
    have : g' = g := by simpa [Value.ownBlock] using he
    subst this
    exact Blk.ne_ (t := e) hh hg hne rfl
end

section
variable {P : Program} (w : World)

theorem run_append_of_nil (base : Nat) (t ty e : TypeId) (i : TypeInfo) (size : Nat) (ht : P.underlying t = some (.slice e)) (hi : P.info? e = some i)
    (v : Value) (n : Nat) (xs : List Value) (hown : w.ownsRow base e size v n xs) (c : Nat) : (Builtin.append_ #[t, t] ty #[v, .slice none 0 c]).run P w = .ok v w := by
  rcases hown.2 with ⟨rfl, rfl⟩ | ⟨g, cap, cur, rfl, _, _, hnc, _⟩
  · simp [Builtin.append_, run_underlying ht, sizeOf, typeInfo, hi, Builtin.lenOf, Builtin.firstCells]
  · simp [Builtin.append_, run_underlying ht, sizeOf, typeInfo, hi, Builtin.lenOf, Builtin.firstCells, hnc, storeCells]

theorem run_append_any (base : Nat) (t ty e : TypeId) (i : TypeInfo) (z : Value) (size bytes : Nat) (ht : P.underlying t = some (.slice e)) (hi : P.info? e = some i) (hz : i.zero = some z)
    (hsize : i.size = size) (hby : i.bytes = bytes) (hzs : z.cells.size = size) (hsz : 0 < size)
    (v : Value) (n : Nat) (xs : List Value) (hown : w.ownsRow base e size v n xs)
    (B : Nat) (A : Option Addr) (m c : Nat) (news : List Value) (hr : Reads w B size A m news) (h1 : ∀ u ∈ news, u.oneCell' = true)
    (h63 : n + m ≤ maxLen) (hbytes : (n + m) * bytes ≤ 140737488355328) (hbase : base ≤ w.heap.size) :
    ∃ v' w', (Builtin.append_ #[t, t] ty #[v, .slice A m c]).run P w = .ok v' w' ∧ w'.ownsRow base e size v' (n + m) (xs ++ news) ∧ w.grownBy w' v.ownBlock ∧
      (v'.ownBlock = v.ownBlock ∨ v'.ownBlock = some w.heap.size) := by
  rcases A with _ | ad
  · have hm : m = 0 := by
      rcases Nat.eq_zero_or_pos m with h0 | h0
      · exact h0
      · obtain ⟨ad, h, _⟩ := hr.2 h0
        cases h
    subst hm
    have hn : news = [] := List.eq_nil_of_length_eq_zero (by simpa using hr.1)
    subst hn
    exact ⟨v, w, run_append_of_nil w base t ty e i size ht hi v n xs hown c, by simpa using hown, World.grownBy.refl w _, .inl rfl⟩
  · have hcells : ∀ j u, news[j]? = some u → w.cell? (ad.add j) = some u := by
      intro j u hu
      rcases Nat.eq_zero_or_pos m with h0 | h0
      · subst h0
        have hn : news = [] := List.eq_nil_of_length_eq_zero (by simpa using hr.1)
        subst hn
        simp at hu
      · obtain ⟨ad', h, _, hc⟩ := hr.2 h0
        injection h with h
        subst h
        exact hc j u hu
    obtain ⟨v', w', hrun, h2, h3, _, h5⟩ := run_append_own_at (P := P) w base t ty e i z size bytes ht hi hz hsize hby hzs hsz v n xs hown ad m c news hr.1 hcells h1 h63 hbytes hbase
    exact ⟨v', w', hrun, h2, h3, h5⟩

theorem wp_append_any {o : Oper} {a : Act} {K : Act → World → Prop} {Q : Exit → Act → World → Prop} (s x : Operand) (t : TypeId)
    (ho : o.op = .call { callee := .builtin .append, args := #[s, x], argTypes := #[t, t] })
    (base : Nat) (e : TypeId) (i : TypeInfo) (z : Value) (size bytes : Nat) (ht : P.underlying t = some (.slice e)) (hi : P.info? e = some i) (hz : i.zero = some z)
    (hsize : i.size = size) (hby : i.bytes = bytes) (hzs : z.cells.size = size) (hsz : 0 < size)
    (v : Value) (n : Nat) (xs : List Value) (hs : a.eval s = v) (hown : w.ownsRow base e size v n xs)
    (B : Nat) (A : Option Addr) (m c : Nat) (news : List Value) (hx : a.eval x = .slice A m c) (hr : Reads w B size A m news) (h1 : ∀ u ∈ news, u.oneCell' = true)
    (h63 : n + m ≤ maxLen) (hbytes : (n + m) * bytes ≤ 140737488355328) (hbase : base ≤ w.heap.size)
    (h : ∀ v' w', w'.ownsRow base e size v' (n + m) (xs ++ news) → w.grownBy w' v.ownBlock → (v'.ownBlock = v.ownBlock ∨ v'.ownBlock = some w.heap.size) → K (a.put o.dst v') w') : o.wp P a w K Q := by
  obtain ⟨v', w', hrun, h2, h3, h4⟩ := run_append_any (P := P) w base t o.type e i z size bytes ht hi hz hsize hby hzs hsz v n xs hown B A m c news hr h1 h63 hbytes hbase
  unfold Oper.wp execOp
  simp only [ho, resolve, invoke, builtin, Sem.run_bind, Sem.run_pure, Result.andThen_ok, List.map_toArray, List.map_cons, List.map_nil, hs, hx, hrun]
  exact h v' w' h2 h3 h4

theorem wpList_append_any {ops : Array Oper} {rest : List Oper} {o : Oper} {a : Act} {Q : Exit → Act → World → Prop} (hgd : o.guard = none) (s x : Operand) (t : TypeId)
    (ho : o.op = .call { callee := .builtin .append, args := #[s, x], argTypes := #[t, t] })
    (base : Nat) (e : TypeId) (i : TypeInfo) (z : Value) (size bytes : Nat) (ht : P.underlying t = some (.slice e)) (hi : P.info? e = some i) (hz : i.zero = some z)
    (hsize : i.size = size) (hby : i.bytes = bytes) (hzs : z.cells.size = size) (hsz : 0 < size)
    (v : Value) (n : Nat) (xs : List Value) (hs : a.eval s = v) (hown : w.ownsRow base e size v n xs)
    (B : Nat) (A : Option Addr) (m c : Nat) (news : List Value) (hx : a.eval x = .slice A m c) (hr : Reads w B size A m news) (h1 : ∀ u ∈ news, u.oneCell' = true)
    (h63 : n + m ≤ maxLen) (hbytes : (n + m) * bytes ≤ 140737488355328) (hbase : base ≤ w.heap.size)
    (h : ∀ v' w', w'.ownsRow base e size v' (n + m) (xs ++ news) → w.grownBy w' v.ownBlock → (v'.ownBlock = v.ownBlock ∨ v'.ownBlock = some w.heap.size) → wpList P ops Q rest (a.put o.dst v') w') : wpList P ops Q (o :: rest) a w :=
  wpList_plain hgd fun _ hK => wp_append_any w s x t ho base e i z size bytes ht hi hz hsize hby hzs hsz v n xs hs hown B A m c news hx hr h1 h63 hbytes hbase fun v' w' h2 h3 h4 => hK _ _ (h v' w' h2 h3 h4)

theorem step_append_any {ops : Array Oper} {o : Oper} {a : Act} {K : Act → World → Prop} {Q : Exit → Act → World → Prop} {E : Prop} (hgd : o.guard = none) (s x : Operand) (t : TypeId)
    (ho : o.op = .call { callee := .builtin .append, args := #[s, x], argTypes := #[t, t] })
    (base : Nat) (e : TypeId) (i : TypeInfo) (z : Value) (size bytes : Nat) (ht : P.underlying t = some (.slice e)) (hi : P.info? e = some i) (hz : i.zero = some z)
    (hsize : i.size = size) (hby : i.bytes = bytes) (hzs : z.cells.size = size) (hsz : 0 < size)
    (v : Value) (n : Nat) (xs : List Value) (hs : a.eval s = v) (hown : w.ownsRow base e size v n xs)
    (B : Nat) (A : Option Addr) (m c : Nat) (news : List Value) (hx : a.eval x = .slice A m c) (hr : Reads w B size A m news) (h1 : ∀ u ∈ news, u.oneCell' = true)
    (h63 : n + m ≤ maxLen) (hbytes : (n + m) * bytes ≤ 140737488355328) (hbase : base ≤ w.heap.size)
    (h : ∀ v' w', w'.ownsRow base e size v' (n + m) (xs ++ news) → w.grownBy w' v.ownBlock → (v'.ownBlock = v.ownBlock ∨ v'.ownBlock = some w.heap.size) → K (a.put o.dst v') w') :
    if Region.wanted o (yielded ops a.tmps) = true then Oper.wp P o a w K Q else E := by
  have hw : Region.wanted o (yielded ops a.tmps) = true := by simp [Region.wanted, hgd]
  rw [if_pos hw]
  exact wp_append_any w s x t ho base e i z size bytes ht hi hz hsize hby hzs hsz v n xs hs hown B A m c news hx hr h1 h63 hbytes hbase h
end

end Go.Proofs.YtkblmloobkiloaaGreatDoor

namespace Go.Proofs.YtkblmloobkiloaaGreatDoor
open Go.RowKit

/-- The slice address A leads to n elements of size cells of the type e, which read xs. -/
def Row (w : World) (e size : Nat) (A : Option Addr) (n : Nat) (xs : List Value) : Prop :=
  xs.length = n * size ∧ (0 < n → ∃ g o cur fr, A = some ⟨g, o, none⟩ ∧ w.heap[g]? = some (Obj.cells cur e fr) ∧ ∀ j u, xs[j]? = some u → cur[o + j]? = some u)

section
variable {w w' : World} {e size n : Nat} {A : Option Addr} {xs : List Value}

theorem Row.none_ : Row w e size A 0 [] := ⟨by simp, fun h => absurd h (by omega)⟩

theorem Row.keep (h : Row w e size A n xs) (hk : ∀ (g : Nat) cur fr, w.heap[g]? = some (Obj.cells cur e fr) → w'.heap[g]? = w.heap[g]?) : Row w' e size A n xs :=
  ⟨h.1, fun hn => by
    obtain ⟨g, o, cur, fr, hA, hg, hc⟩ := h.2 hn
    exact ⟨g, o, cur, fr, hA, (hk g cur fr hg).trans hg, hc⟩⟩

theorem heap_lt {g : Nat} {x : Obj} (h : w.heap[g]? = some x) : g < w.heap.size := by
  rcases Nat.lt_or_ge g w.heap.size with hlt | hge
  · exact hlt
  · rw [Array.getElem?_eq_none hge] at h; cases h

theorem Row.below {B : Nat} (h : Row w e size A n xs) (hb : Below B w w') (hB : w.heap.size ≤ B) : Row w' e size A n xs :=
  h.keep fun g _ _ hg => hb.block g (by have := heap_lt hg; omega)
theorem Row.drew (h : Row w e size A n xs) : Row w.drew e size A n xs := h
theorem Row.drewN (h : Row w e size A n xs) (k : Nat) : Row (w.drewN k) e size A n xs := h
theorem Row.alloc (h : Row w e size A n xs) (x : Obj) : Row (w.alloc x) e size A n xs :=
  h.keep fun g _ _ hg => Below.heap_alloc w x g (heap_lt hg)
theorem Row.setCell {t : TypeId} {p : Addr} {cs : Array Value} {fr' : Nat × Nat} (h : Row w e size A n xs) (hp : w.heap[p.block]? = some (Obj.cells cs t fr')) (hne : t ≠ e) (u : Value) : Row (w.setCell p u) e size A n xs :=
  h.keep fun g cur fr hg => Below.heap_setCell w p u g (by
    rintro rfl
    rw [hp] at hg
    injection hg with hg
    injection hg with _ ht
    exact hne ht)
theorem Row.grown {row : Option Nat} (h : Row w e size A n xs) (hg : w.grownBy w' row) (hr : ∀ (g : Nat), row = some g → ∀ cur fr, w.heap[g]? ≠ some (Obj.cells cur e fr)) : Row w' e size A n xs :=
  h.keep fun g cur fr hc => hg.block g (heap_lt hc) (fun he => hr g he.symm cur fr hc)
theorem Row.cell {g o : Nat} (h : Row w e size (some ⟨g, o, none⟩) n xs) {j : Nat} {u : Value} (hj : xs[j]? = some u) : w.cell? ⟨g, o + j, none⟩ = some u := by
  have hn : 0 < n := by
    rcases Nat.eq_zero_or_pos n with h0 | h0
    · have := h.1
      rw [h0, Nat.zero_mul] at this
      rw [List.eq_nil_of_length_eq_zero this] at hj
      simp at hj
    · exact h0
  obtain ⟨g', o', cur, fr, hA, hg, hc⟩ := h.2 hn
  obtain ⟨rfl, rfl⟩ : g = g' ∧ o = o' := by
    injection hA with hA
    injection hA with h1 h2
    exact ⟨h1, h2⟩
  unfold World.cell?
  rw [hg]
  exact hc j u hj
theorem Row.form (h : Row w e size A n xs) (hn : 0 < n) : ∃ g o, A = some ⟨g, o, none⟩ ∧ g < w.heap.size := by
  obtain ⟨g, o, cur, fr, hA, hg, _⟩ := h.2 hn
  exact ⟨g, o, hA, heap_lt hg⟩
theorem Row.reads (h : Row w e size A n xs) : Reads w w.heap.size size A n xs := by
  refine ⟨h.1, fun hn => ?_⟩
  obtain ⟨g, o, rfl, hlt⟩ := h.form hn
  refine ⟨_, rfl, hlt, fun j u hu => ?_⟩
  rw [Addr.add_lit]
  exact h.cell hu
theorem Row.of_own {base c : Nat} (h : w.ownsRow base e size (.slice A n c) n xs) : Row w e size A n xs := by
  refine ⟨h.1, fun hn => ?_⟩
  rcases h.2 with ⟨_, h0⟩ | ⟨g, cap, cur, hv, _, hg, _, _, hs, ht⟩
  · omega
  · injection hv with hA
    refine ⟨g, 0, cur, (0, 0), hA, hg, fun j u hu => ?_⟩
    rw [← ht] at hu
    have hj := (List.getElem?_eq_some_iff.1 hu).1
    rw [List.getElem?_take_of_lt (by simp at hj; omega)] at hu
    rw [Nat.zero_add]
    simpa using hu
theorem Row.new (w : World) (e size n : Nat) (cs : Array Value) (fr : Nat × Nat) (xs : List Value) (hx : xs.length = n * size) (hc : ∀ (j : Nat) u, xs[j]? = some u → cs[j]? = some u) :
    Row (w.alloc (.cells cs e fr)) e size (some ⟨w.heap.size, 0, none⟩) n xs :=
  ⟨hx, fun _ => ⟨_, 0, cs, fr, rfl, heap_alloc_new w _, fun j u hu => by rw [Nat.zero_add]; exact hc j u hu⟩⟩
end
end Go.Proofs.YtkblmloobkiloaaGreatDoor

namespace Go.Proofs.YtkblmloobkiloaaGreatDoor

/-- An account. -/
structure Acct where
  name : ByteArray
  leader : ByteArray
  members : List ByteArray
  key : ByteArray

theorem beq_str (a b : ByteArray) : (a.toList == b.toList) = decide (a = b) := by
  rw [Bool.eq_iff_iff, beq_iff_eq, decide_eq_true_iff, ByteArray.toList_eq, ByteArray.toList_eq]
  constructor
  · intro h
    apply ByteArray.ext
    exact Array.toList_inj.1 h
  · rintro rfl; rfl
def ofL (l : List UInt8) : ByteArray := ⟨l.toArray⟩
theorem ofL_toList (s : ByteArray) : ofL s.data.toList = s := by apply ByteArray.ext; simp [ofL]

/-! ### cutting at a byte -/
def cutL (c : UInt8) : List UInt8 → List (List UInt8)
  | [] => [[]]
  | b :: l => if b = c then [] :: cutL c l else match cutL c l with | [] => [[b]] | h :: t => (b :: h) :: t

theorem cutL_none (c : UInt8) : ∀ (l : List UInt8), (∀ x ∈ l, x ≠ c) → cutL c l = [l]
  | [], _ => rfl
  | b :: l, h => by
    rw [cutL, if_neg (h b List.mem_cons_self), cutL_none c l (fun x hx => h x (List.mem_cons_of_mem _ hx))]
theorem cutL_hit (c : UInt8) (rest : List UInt8) : ∀ (l : List UInt8), (∀ x ∈ l, x ≠ c) → cutL c (l ++ c :: rest) = l :: cutL c rest
  | [], _ => by rw [List.nil_append, cutL, if_pos rfl]
  | b :: l, h => by
    rw [List.cons_append, cutL, if_neg (h b List.mem_cons_self), cutL_hit c rest l (fun x hx => h x (List.mem_cons_of_mem _ hx))]

def cut (c : UInt8) (s : ByteArray) : List ByteArray := (cutL c s.data.toList).map ofL

/-! ### characters -/
/-- From place pos on: are all pieces good (by so many pieces)? -/
def goodFrom (s : ByteArray) : Nat → Nat → Bool
  | 0, _ => true
  | f + 1, pos => if pos < s.size then (if (Utf8.decode s pos).1 = 0 ∨ ((Utf8.decode s pos).1 = 65533 ∧ (Utf8.decode s pos).2 = 1) then false else goodFrom s f (pos + (Utf8.decode s pos).2)) else true
def good (s : ByteArray) : Bool := goodFrom s s.size 0

def byteOk (c : UInt8) : Bool := !(decide (c.toNat < 33) || decide (c.toNat = 127) || decide (c.toNat = 58) || decide (c.toNat = 44) || decide (c.toNat = 35) || decide (c.toNat = 47))
def isName (s : ByteArray) : Bool := decide (1 ≤ s.size) && decide (s.size ≤ 32) && good s && s.data.toList.all byteOk
def keyByte (c : UInt8) : Bool := !(decide (c.toNat < 33) || decide (126 < c.toNat) || decide (c.toNat = 58))
def isKey (s : ByteArray) : Bool := decide (s.size ≤ 32) && s.data.toList.all keyByte

def formed (a : Acct) : Bool := isName a.name && (decide (a.leader.size = 0) || isName a.leader) && a.members.all isName && isKey a.key

/-- A line as an account; none: it is none. -/
def account (line : ByteArray) : Option Acct :=
  match cut 58 line with
  | [a, b, c, d] =>
    let x : Acct := { name := a, leader := b, members := if c.size = 0 then [] else cut 44 c, key := d }
    if formed x then some x else none
  | _ => none

def has (l : List ByteArray) (s : ByteArray) : Bool := l.any (fun y => decide (y = s))
/-- Does one of l from place i on stand ahead of itself? -/
def twiceFrom (all : List ByteArray) : List ByteArray → Nat → Bool
  | [], _ => false
  | x :: l, i => has (all.take i) x || twiceFrom all l (i + 1)
def twice (l : List ByteArray) : Bool := twiceFrom l l 0
def findIx (L : List Acct) (s : ByteArray) : Option Nat := L.findIdx? (fun a => decide (a.name = s))
def known (L : List Acct) (s : ByteArray) : Bool := L.any (fun a => decide (a.name = s))
def knows (L : List Acct) (a : Acct) : Bool := (decide (a.leader.size = 0) || known L a.leader) && a.members.all (known L)

/-! ### what a table tells -/
def isMember (L : List Acct) (u g : ByteArray) : Bool := L.any (fun a => decide (a.name = g) && (decide (u = g) || has a.members u))
def leads (L : List Acct) (u g : ByteArray) : Bool :=
  match L.find? (fun a => decide (a.name = g)) with
  | none => false
  | some a => known L u && (if a.leader.size = 0 then isMember L u g else decide (a.leader = u))
end Go.Proofs.YtkblmloobkiloaaGreatDoor

namespace Go.Proofs.YtkblmloobkiloaaGreatDoor

theorem ofL_size (l : List UInt8) : (ofL l).size = l.length := by simp [ofL, ByteArray.size]

end Go.Proofs.YtkblmloobkiloaaGreatDoor

namespace Go.Proofs.YtkblmloobkiloaaGreatDoor

end Go.Proofs.YtkblmloobkiloaaGreatDoor

namespace Go.Proofs.YtkblmloobkiloaaGreatDoor
open Go.RowKit

theorem ret_int {k : IntKind} {a b : Int} (h : a = b) : Ending.returned (.int k a) = .returned (.int k b) := by rw [h]
theorem ret_bool {a b : Bool} (h : a = b) : Ending.returned (.bool a) = .returned (.bool b) := by rw [h]
theorem ret_str {a b : ByteArray} (h : a = b) : Ending.returned (.string a) = .returned (.string b) := by rw [h]

/-- w' is w, some draws later. -/
def Drawn (w w' : World) : Prop := ∃ n, w' = w.drewN n
theorem Drawn.refl (w : World) : Drawn w w := ⟨0, rfl⟩
theorem Drawn.next {w w' : World} (h : Drawn w w') (k : Nat) : Drawn w (w'.drewN k) := by obtain ⟨n, rfl⟩ := h; exact ⟨n + k, by rw [World.drewN_drewN]⟩
theorem Drawn.heap {w w' : World} (h : Drawn w w') : w'.heap = w.heap := by obtain ⟨n, rfl⟩ := h; rfl
theorem Drawn.trans {a b c : World} (h : Drawn a b) (k : Drawn b c) : Drawn a c := by obtain ⟨n, rfl⟩ := k; exact h.next n
theorem Drawn.below {w w' : World} (h : Drawn w w') (B : Nat) : Below B w w' := by
  obtain ⟨n, rfl⟩ := h
  exact ⟨rfl, rfl, rfl, Nat.le_refl _, fun _ _ => rfl⟩

/-- The slice value v reads as the texts l. -/
def Strs (w : World) (v : Value) (l : List ByteArray) : Prop :=
  ∃ A c, v = .slice A l.length c ∧ l.length ≤ c ∧ c ≤ maxLen ∧ Row w 9 1 A l.length (l.map Value.string)

section
variable {w w' : World} {v : Value} {l : List ByteArray}
theorem Strs.nil_ (w : World) : Strs w (.slice none 0 0) [] := ⟨none, 0, rfl, Nat.le_refl _, Nat.zero_le _, Row.none_⟩
theorem Strs.below {B : Nat} (h : Strs w v l) (hb : Below B w w') (hB : w.heap.size ≤ B) : Strs w' v l := by
  obtain ⟨A, c, hv, h1, h2, hr⟩ := h; exact ⟨A, c, hv, h1, h2, hr.below hb hB⟩
theorem Strs.alloc (h : Strs w v l) (x : Obj) : Strs (w.alloc x) v l := by
  obtain ⟨A, c, hv, h1, h2, hr⟩ := h; exact ⟨A, c, hv, h1, h2, hr.alloc x⟩
theorem Strs.drewN (h : Strs w v l) (k : Nat) : Strs (w.drewN k) v l := h
theorem Strs.drew (h : Strs w v l) : Strs w.drew v l := h
theorem Strs.keep (h : Strs w v l) (hk : ∀ (g : Nat) cur fr, w.heap[g]? = some (Obj.cells cur 9 fr) → w'.heap[g]? = w.heap[g]?) : Strs w' v l := by
  obtain ⟨A, c, hv, h1, h2, hr⟩ := h; exact ⟨A, c, hv, h1, h2, hr.keep hk⟩
theorem Strs.of_own {base n : Nat} (h : w.ownsRow base 9 1 v n (l.map Value.string)) (hn : n = l.length) : Strs w v l := by
  subst hn
  rcases h.2 with ⟨rfl, h0⟩ | ⟨g, cap, cur, rfl, _, hg, hc, hm, hs, ht⟩
  · have : l = [] := List.eq_nil_of_length_eq_zero h0
    subst this
    exact Strs.nil_ w
  · exact ⟨_, cap, rfl, hc, hm, Row.of_own h⟩
theorem Strs.new (w : World) (cs : Array Value) (fr : Nat × Nat) (l : List ByteArray) (c : Nat) (hc : l.length ≤ c) (hm : c ≤ maxLen) (hx : ∀ (j : Nat) u, (l.map Value.string)[j]? = some u → cs[j]? = some u) :
    Strs (w.alloc (.cells cs 9 fr)) (.slice (some ⟨w.heap.size, 0, none⟩) l.length c) l :=
  ⟨_, c, rfl, hc, hm, Row.new w _ 1 _ cs fr _ (by simp) hx⟩
/-- The cells inside a round. -/
theorem Strs.at_ (h : Strs w v l) {k : Nat} {x : ByteArray} (hk : l[k]? = some x) : ∃ g o c, v = .slice (some ⟨g, o, none⟩) l.length c ∧ l.length ≤ c ∧ w.cell? ⟨g, o + k, none⟩ = some (.string x) := by
  obtain ⟨A, c, rfl, h1, _, hr⟩ := h
  have hl : k < l.length := (List.getElem?_eq_some_iff.1 hk).1
  obtain ⟨g, o, rfl, _⟩ := hr.form (by omega)
  exact ⟨g, o, c, rfl, h1, hr.cell (by rw [List.getElem?_map, hk]; rfl)⟩
end

section
variable {w w' : World} {v : Value} {L : List Acct}
end
end Go.Proofs.YtkblmloobkiloaaGreatDoor

namespace Go.Proofs.YtkblmloobkiloaaGreatDoor
open Go.RowKit

section
variable {w w' : World} {base e size n : Nat} {v : Value} {xs : List Value}
theorem own_below (h : w.ownsRow base e size v n xs) (hb : Below w.heap.size w w') : w'.ownsRow base e size v n xs := by
  refine ⟨h.1, ?_⟩
  rcases h.2 with h0 | ⟨g, cap, cur, hv, hbg, hg, hr⟩
  · exact .inl h0
  · exact .inr ⟨g, cap, cur, hv, hbg, (hb.block g (heap_lt hg)).trans hg, hr⟩
/-- Cells of another type lie in no block of that row. -/
theorem own_apart (h : w.ownsRow base e size v n xs) {g : Nat} {cur : Array Value} {t : TypeId} {fr : Nat × Nat} (hg : w.heap[g]? = some (.cells cur t fr)) (hne : t ≠ e) : some g ≠ v.ownBlock := by
  intro he
  obtain ⟨c, fz, hk⟩ := Go.Lib.ownsRow_kind h g he.symm
  rw [hg] at hk
  injection hk with hk
  injection hk with _ ht
  exact hne ht
theorem own_grown {w : World} {base' e' size' m : Nat} {u : Value} {ys : List Value} (h : w.ownsRow base e size v n xs) (ho : w.ownsRow base' e' size' u m ys) (hg : w.grownBy w' u.ownBlock) (hne : e ≠ e') : w'.ownsRow base e size v n xs := by
  refine ⟨h.1, ?_⟩
  rcases h.2 with h0 | ⟨g, cap, cur, hv, hbg, hgc, hr⟩
  · exact .inl h0
  · exact .inr ⟨g, cap, cur, hv, hbg, (hg.block g (heap_lt hgc) (own_apart ho hgc hne)).trans hgc, hr⟩
theorem Strs.grown {u : Value} {l : List ByteArray} (hs : Strs w u l) (h : w.ownsRow base e size v n xs) (hg : w.grownBy w' v.ownBlock) (hne : 9 ≠ e) : Strs w' u l :=
  hs.keep fun g _ _ hc => hg.block g (heap_lt hc) (own_apart h hc hne)
end

section
variable {w w' : World} {base : Nat} {v : Value} {L : List Acct}
end
end Go.Proofs.YtkblmloobkiloaaGreatDoor

namespace Go.Proofs.YtkblmloobkiloaaGreatDoor

end Go.Proofs.YtkblmloobkiloaaGreatDoor

namespace Go.Proofs.YtkblmloobkiloaaGreatDoor
open Go.RowKit Go.Maps

def KS (s : ByteArray) : Lit := .string s.data.toList
/-- Where the account of that name stands (0: nowhere). -/
def ix (L : List Acct) (s : ByteArray) : Nat := (findIx L s).getD 0

/-- Block b is the map from the names of L to their places. -/
def AtMap (w : World) (b n : Nat) (L : List Acct) : Prop :=
  ∃ D : DataW Unit, w.ownsMap Tryz.prog 9 (plainElem Tryz.prog 3) b n D ∧
    ∀ s : ByteArray, Maps.has D (KS s) = known L s ∧ D.atKey (KS s) (.lit (.int .i64 0)) = .lit (.int .i64 (ix L s : Nat))

theorem AtMap.keep {w w' : World} {b n : Nat} {L : List Acct} (h : AtMap w b n L) (hk : ∀ es ck, w.heap[b]? = some (.map es ck) → w'.heap[b]? = w.heap[b]?) : AtMap w' b n L := by
  obtain ⟨D, ⟨es, ck, hb, r⟩, hx⟩ := h
  exact ⟨D, ⟨es, ck, (hk es ck hb).trans hb, r⟩, hx⟩
theorem AtMap.lt {w : World} {b n : Nat} {L : List Acct} (h : AtMap w b n L) : b < w.heap.size := by
  obtain ⟨D, ⟨es, ck, hb, r⟩, hx⟩ := h
  exact heap_lt hb
theorem AtMap.below {w w' : World} {b n : Nat} {L : List Acct} (h : AtMap w b n L) (hb : Below w.heap.size w w') : AtMap w' b n L :=
  h.keep fun _ _ hc => hb.block b (heap_lt hc)
end Go.Proofs.YtkblmloobkiloaaGreatDoor

namespace Go.Proofs.YtkblmloobkiloaaGreatDoor
open Go.RowKit Go.Maps Go.WideMaps

end Go.Proofs.YtkblmloobkiloaaGreatDoor

namespace Go.Proofs.YtkblmloobkiloaaGreatDoor

/-- A node. -/
structure Nd where
  path : Int
  parent : Int
  name : ByteArray
  mode : Int
  uid : ByteArray
  gid : ByteArray
  muid : ByteArray
  atime : Int
  mtime : Int
  vers : Int
  length : Int
  opens : Int
  kids : Int

def Nd.none : Nd := ⟨0, 0, ⟨#[]⟩, 0, ⟨#[]⟩, ⟨#[]⟩, ⟨#[]⟩, 0, 0, 0, 0, 0, 0⟩

/-- The node's mode is a mode; its texts are short. -/
def Nd.ok (n : Nd) : Prop := 0 ≤ n.mode ∧ n.mode < 4294967296 ∧ n.name.size ≤ 16777216 ∧ n.uid.size ≤ 16777216 ∧ n.gid.size ≤ 16777216 ∧ n.muid.size ≤ 16777216

/-- The bits of the classes together. -/
def rightsN (own mem : Bool) (m : Nat) : Nat := ((if own then m / 64 % 8 else 0) ||| (if mem then m / 8 % 8 else 0)) ||| m % 8
def rights (own mem : Bool) (m : Int) : Int := (rightsN own mem m.toNat : Nat)
end Go.Proofs.YtkblmloobkiloaaGreatDoor
