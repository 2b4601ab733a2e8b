/- Ns: Shelf (merged by merge2.py from the working texts). -/
import Derived.Shelf.Strings.Builder1
import Derived.Shelf.Small.Strs
import Derived.Shelf.Strconv.Atoi
import Derived.Shelf.Strconv.Itoa0
import Derived.Shelf.Strconv.Itoa1
import Derived.Shelf.LaysM
import Derived.Shelf.Strconv.Itoa2
import Derived.Shelf.Strconv.Itoa3
import Derived.Shelf.Strings.Search1
import Derived.Shelf.Strings.Prefix
import Derived.Test.YticfdjaklojglaaGreatDoorProg
set_option linter.unusedSimpArgs false
set_option linter.unnecessarySimpa false
set_option linter.unusedVariables false
set_option linter.unusedSectionVars false
namespace Go.Proofs
open Go.Shelf
def Tryz.lays169_ren : Go.Shelf.Ren := ⟨fun | 169 => 36 | n => n, fun | 70 => 77 | 9 => 9 | 0 => 0 | 72 => 80 | 37 => 78 | 127 => 98 | 3 => 3 | 5 => 5 | n => n, fun | n => n⟩
theorem Tryz.lays169 : Go.Proofs.Lays.n169 Tryz.prog Tryz.lays169_ren := {
 mixed := by kernel_rfl
 f169 := Tryz.func36.trans (congrArg some (by kernel_rfl))
 t0 := Tryz.underlying0
 a0 := Tryz.isAgg0
 z0 := Tryz.sizeOf0
 v0 := Tryz.zeroValue0
 t3 := Tryz.underlying3
 a3 := Tryz.isAgg3
 z3 := Tryz.sizeOf3
 v3 := Tryz.zeroValue3
 t9 := Tryz.underlying9
 a9 := Tryz.isAgg9
 z9 := Tryz.sizeOf9
 v9 := Tryz.zeroValue9
 t37 := Tryz.underlying78
 a37 := Tryz.isAgg78
 z37 := Tryz.sizeOf78
 v37 := Tryz.zeroValue78
 t70 := Tryz.underlying77
 a70 := Tryz.isAgg77
 z70 := Tryz.sizeOf77
 v70 := Tryz.zeroValue77
 t72 := Tryz.underlying80
 a72 := Tryz.isAgg80
 z72 := Tryz.sizeOf80
 v72 := Tryz.zeroValue80
 t127 := Tryz.underlying98
 a127 := Tryz.isAgg98
 z127 := Tryz.sizeOf98
 v127 := Tryz.zeroValue98 }
theorem Tryz.Builder_Extra_169 : Builder.Extra Tryz.prog Tryz.lays169_ren := {
 sizeBuilder := by kernel_rfl
 liesBuilder := by kernel_rfl
 t5 := Tryz.underlying5
 a5 := Tryz.isAgg5
 z5 := Tryz.sizeOf5
 v5 := Tryz.zeroValue5
 infoByte := by kernel_rfl
 cellsByte := by kernel_rfl
 sizeByte := by kernel_rfl
 neB5 := by decide }
open Go.RowKit in
theorem Tryz.Builder_String_any (B b : Nat) (l : List UInt8) (w : World) (h : Lib.IsBuilder 80 5 B b (Lib.byteCells l) w) (hBw : B ≤ w.heap.size) :
   Calls Tryz.prog 36 #[.pointer (some ⟨b, 0, none⟩)] w fun e w' => e = .returned (.string ⟨l.toArray⟩) ∧ Below B w w' := Any.Builder_String_any Tryz.lays169 Tryz.Builder_Extra_169 B b l w h hBw
def Tryz.lays137_ren : Go.Shelf.Ren := ⟨fun | 137 => 47 | 217 => 63 | 266 => 72 | n => n, fun | 9 => 9 | 5 => 5 | 3 => 3 | n => n, fun | n => n⟩
theorem Tryz.lays137 : Go.Proofs.Lays.n137 Tryz.prog Tryz.lays137_ren := {
 mixed := by kernel_rfl
 f137 := Tryz.func47.trans (congrArg some (by kernel_rfl))
 f217 := Tryz.func63.trans (congrArg some (by kernel_rfl))
 f266 := Tryz.func72.trans (congrArg some (by kernel_rfl))
 t3 := Tryz.underlying3
 a3 := Tryz.isAgg3
 z3 := Tryz.sizeOf3
 v3 := Tryz.zeroValue3
 t5 := Tryz.underlying5
 a5 := Tryz.isAgg5
 z5 := Tryz.sizeOf5
 v5 := Tryz.zeroValue5
 t9 := Tryz.underlying9
 a9 := Tryz.isAgg9
 z9 := Tryz.sizeOf9
 v9 := Tryz.zeroValue9 }
open Go.RowKit in
theorem Tryz.strings_IndexByte (s : ByteArray) (c : Int) (w : World) :
   Calls Tryz.prog 47 #[.string s, .int .u8 c] w fun e w' => e = .returned (.int .i64 (Lib.indexByte s.data.toList c.toNat.toUInt8)) ∧ w' = w := Any.strings_IndexByte Tryz.lays137 s c w
def Tryz.lays172_ren : Go.Shelf.Ren := ⟨fun | 172 => 61 | 244 => 70 | 245 => 71 | 247 => 80 | 279 => 81 | 280 => 82 | 281 => 83 | 282 => 84 | 287 => 95 | 316 => 96 | 171 => 30 | 205 => 97 | 321 => 102 | 322 => 103 | 243 => 55 | 246 => 66 | 283 => 76 | 284 => 77 | 285 => 78 | 286 => 79 | 129 => 91 | 317 => 90 | 318 => 92 | 319 => 93 | 320 => 94 | 337 => 100 | 338 => 101 | n => n, fun | 9 => 9 | 3 => 3 | 75 => 82 | 76 => 84 | 4 => 4 | 5 => 5 | 167 => 115 | 37 => 78 | 0 => 0 | 85 => 116 | 2 => 2 | 168 => 118 | 53 => 110 | 175 => 130 | 46 => 128 | 210 => 134 | 127 => 98 | 145 => 141 | 143 => 139 | 21 => 21 | 171 => 109 | 173 => 113 | 212 => 124 | 51 => 125 | 20 => 20 | 213 => 126 | 232 => 142 | 233 => 143 | 80 => 70 | n => n, fun | 15 => 2 | 16 => 3 | 17 => 1 | 18 => 4 | 19 => 5 | n => n⟩
theorem Tryz.lays172 : Go.Proofs.Lays.n172 Tryz.prog Tryz.lays172_ren := {
 mixed := by kernel_rfl
 f129 := Tryz.func91.trans (congrArg some (by kernel_rfl))
 f171 := Tryz.func30.trans (congrArg some (by kernel_rfl))
 f172 := Tryz.func61.trans (congrArg some (by kernel_rfl))
 f205 := Tryz.func97.trans (congrArg some (by kernel_rfl))
 f243 := Tryz.func55.trans (congrArg some (by kernel_rfl))
 f244 := Tryz.func70.trans (congrArg some (by kernel_rfl))
 f245 := Tryz.func71.trans (congrArg some (by kernel_rfl))
 f246 := Tryz.func66.trans (congrArg some (by kernel_rfl))
 f247 := Tryz.func80.trans (congrArg some (by kernel_rfl))
 f279 := Tryz.func81.trans (congrArg some (by kernel_rfl))
 f280 := Tryz.func82.trans (congrArg some (by kernel_rfl))
 f281 := Tryz.func83.trans (congrArg some (by kernel_rfl))
 f282 := Tryz.func84.trans (congrArg some (by kernel_rfl))
 f283 := Tryz.func76.trans (congrArg some (by kernel_rfl))
 f284 := Tryz.func77.trans (congrArg some (by kernel_rfl))
 f285 := Tryz.func78.trans (congrArg some (by kernel_rfl))
 f286 := Tryz.func79.trans (congrArg some (by kernel_rfl))
 f287 := Tryz.func95.trans (congrArg some (by kernel_rfl))
 f316 := Tryz.func96.trans (congrArg some (by kernel_rfl))
 f317 := Tryz.func90.trans (congrArg some (by kernel_rfl))
 f318 := Tryz.func92.trans (congrArg some (by kernel_rfl))
 f319 := Tryz.func93.trans (congrArg some (by kernel_rfl))
 f320 := Tryz.func94.trans (congrArg some (by kernel_rfl))
 f321 := Tryz.func102.trans (congrArg some (by kernel_rfl))
 f322 := Tryz.func103.trans (congrArg some (by kernel_rfl))
 f337 := Tryz.func100.trans (congrArg some (by kernel_rfl))
 f338 := Tryz.func101.trans (congrArg some (by kernel_rfl))
 t0 := Tryz.underlying0
 a0 := Tryz.isAgg0
 z0 := Tryz.sizeOf0
 v0 := Tryz.zeroValue0
 t2 := Tryz.underlying2
 a2 := Tryz.isAgg2
 z2 := Tryz.sizeOf2
 v2 := Tryz.zeroValue2
 t3 := Tryz.underlying3
 a3 := Tryz.isAgg3
 z3 := Tryz.sizeOf3
 v3 := Tryz.zeroValue3
 t4 := Tryz.underlying4
 a4 := Tryz.isAgg4
 z4 := Tryz.sizeOf4
 v4 := Tryz.zeroValue4
 t5 := Tryz.underlying5
 a5 := Tryz.isAgg5
 z5 := Tryz.sizeOf5
 v5 := Tryz.zeroValue5
 t9 := Tryz.underlying9
 a9 := Tryz.isAgg9
 z9 := Tryz.sizeOf9
 v9 := Tryz.zeroValue9
 t20 := Tryz.underlying20
 a20 := Tryz.isAgg20
 z20 := Tryz.sizeOf20
 v20 := Tryz.zeroValue20
 t21 := Tryz.underlying21
 a21 := Tryz.isAgg21
 z21 := Tryz.sizeOf21
 v21 := Tryz.zeroValue21
 t37 := Tryz.underlying78
 a37 := Tryz.isAgg78
 z37 := Tryz.sizeOf78
 v37 := Tryz.zeroValue78
 t46 := Tryz.underlying128
 a46 := Tryz.isAgg128
 z46 := Tryz.sizeOf128
 v46 := Tryz.zeroValue128
 t51 := Tryz.underlying125
 a51 := Tryz.isAgg125
 z51 := Tryz.sizeOf125
 v51 := Tryz.zeroValue125
 t53 := Tryz.underlying110
 a53 := Tryz.isAgg110
 z53 := Tryz.sizeOf110
 v53 := Tryz.zeroValue110
 t75 := Tryz.underlying82
 a75 := Tryz.isAgg82
 z75 := Tryz.sizeOf82
 v75 := Tryz.zeroValue82
 t76 := Tryz.underlying84
 a76 := Tryz.isAgg84
 z76 := Tryz.sizeOf84
 v76 := Tryz.zeroValue84
 t85 := Tryz.underlying116
 a85 := Tryz.isAgg116
 z85 := Tryz.sizeOf116
 v85 := Tryz.zeroValue116
 t127 := Tryz.underlying98
 a127 := Tryz.isAgg98
 z127 := Tryz.sizeOf98
 v127 := Tryz.zeroValue98
 t143 := Tryz.underlying139
 a143 := Tryz.isAgg139
 z143 := Tryz.sizeOf139
 v143 := Tryz.zeroValue139
 t145 := Tryz.underlying141
 a145 := Tryz.isAgg141
 z145 := Tryz.sizeOf141
 v145 := Tryz.zeroValue141
 t167 := Tryz.underlying115
 a167 := Tryz.isAgg115
 z167 := Tryz.sizeOf115
 v167 := Tryz.zeroValue115
 t168 := Tryz.underlying118
 a168 := Tryz.isAgg118
 z168 := Tryz.sizeOf118
 v168 := Tryz.zeroValue118
 t171 := Tryz.underlying109
 a171 := Tryz.isAgg109
 z171 := Tryz.sizeOf109
 v171 := Tryz.zeroValue109
 t173 := Tryz.underlying113
 a173 := Tryz.isAgg113
 z173 := Tryz.sizeOf113
 v173 := Tryz.zeroValue113
 t175 := Tryz.underlying130
 a175 := Tryz.isAgg130
 z175 := Tryz.sizeOf130
 v175 := Tryz.zeroValue130
 t210 := Tryz.underlying134
 a210 := Tryz.isAgg134
 z210 := Tryz.sizeOf134
 v210 := Tryz.zeroValue134
 t212 := Tryz.underlying124
 a212 := Tryz.isAgg124
 z212 := Tryz.sizeOf124
 v212 := Tryz.zeroValue124
 t213 := Tryz.underlying126
 a213 := Tryz.isAgg126
 z213 := Tryz.sizeOf126
 t232 := Tryz.underlying142
 a232 := Tryz.isAgg142
 z232 := Tryz.sizeOf142
 v232 := Tryz.zeroValue142
 t233 := Tryz.underlying143
 a233 := Tryz.isAgg143
 z233 := Tryz.sizeOf143
 v233 := Tryz.zeroValue143
 g15 := by kernel_rfl
 g16 := by kernel_rfl
 g17 := by kernel_rfl
 g18 := by kernel_rfl
 g19 := by kernel_rfl }
open Go.RowKit in
theorem Tryz.strconv_Atoi (s : ByteArray) (n : Int) (hl : s.size ≤ 18) (h : Lib.atoi s.data.toList = some n) (w : World) :
   Calls Tryz.prog 61 #[.string s] w fun e w' => e = .returned (.tuple #[.int .i64 n, .nilIface]) ∧ ∃ t, w' = Lib.bytesWorld w 5 t := Any.strconv_Atoi Tryz.lays172 s n hl h w
def Tryz.laysM171_ren : Go.Shelf.Ren := ⟨fun | 171 => 30 | 243 => 55 | 246 => 66 | 283 => 76 | 284 => 77 | 285 => 78 | 286 => 79 | 129 => 91 | 317 => 90 | 318 => 92 | 319 => 93 | 320 => 94 | 337 => 100 | 338 => 101 | n => n, fun | 3 => 3 | 9 => 9 | 2 => 2 | 4 => 4 | 171 => 109 | 0 => 0 | 53 => 110 | 37 => 78 | 5 => 5 | 173 => 113 | 212 => 124 | 51 => 125 | 20 => 20 | 213 => 126 | 46 => 128 | 232 => 142 | 233 => 143 | n => n, fun | 17 => 1 | 18 => 4 | 19 => 5 | n => n⟩
theorem Tryz.laysM171 : Go.Proofs.LaysM.n171 Tryz.prog Tryz.laysM171_ren := {
 mixed := by kernel_rfl
 f129 := Tryz.func91.trans (congrArg some (by kernel_rfl))
 f171 := Tryz.func30.trans (congrArg some (by kernel_rfl))
 f243 := Tryz.func55.trans (congrArg some (by kernel_rfl))
 f246 := Tryz.func66.trans (congrArg some (by kernel_rfl))
 f283 := Tryz.func76.trans (congrArg some (by kernel_rfl))
 f284 := Tryz.func77.trans (congrArg some (by kernel_rfl))
 f285 := Tryz.func78.trans (congrArg some (by kernel_rfl))
 f286 := Tryz.func79.trans (congrArg some (by kernel_rfl))
 f317 := Tryz.func90.trans (congrArg some (by kernel_rfl))
 f318 := Tryz.func92.trans (congrArg some (by kernel_rfl))
 f319 := Tryz.func93.trans (congrArg some (by kernel_rfl))
 f320 := Tryz.func94.trans (congrArg some (by kernel_rfl))
 f337 := Tryz.func100.trans (congrArg some (by kernel_rfl))
 f338 := Tryz.func101.trans (congrArg some (by kernel_rfl))
 t0 := Tryz.underlying0
 a0 := Tryz.isAgg0
 z0 := Tryz.sizeOf0
 v0 := Tryz.zeroValue0
 t2 := Tryz.underlying2
 a2 := Tryz.isAgg2
 z2 := Tryz.sizeOf2
 v2 := Tryz.zeroValue2
 t3 := Tryz.underlying3
 a3 := Tryz.isAgg3
 z3 := Tryz.sizeOf3
 v3 := Tryz.zeroValue3
 t4 := Tryz.underlying4
 a4 := Tryz.isAgg4
 z4 := Tryz.sizeOf4
 v4 := Tryz.zeroValue4
 t5 := Tryz.underlying5
 a5 := Tryz.isAgg5
 z5 := Tryz.sizeOf5
 v5 := Tryz.zeroValue5
 t9 := Tryz.underlying9
 a9 := Tryz.isAgg9
 z9 := Tryz.sizeOf9
 v9 := Tryz.zeroValue9
 t20 := Tryz.underlying20
 a20 := Tryz.isAgg20
 z20 := Tryz.sizeOf20
 v20 := Tryz.zeroValue20
 t37 := Tryz.underlying78
 a37 := Tryz.isAgg78
 z37 := Tryz.sizeOf78
 v37 := Tryz.zeroValue78
 t46 := Tryz.underlying128
 a46 := Tryz.isAgg128
 z46 := Tryz.sizeOf128
 v46 := Tryz.zeroValue128
 t51 := Tryz.underlying125
 a51 := Tryz.isAgg125
 z51 := Tryz.sizeOf125
 v51 := Tryz.zeroValue125
 t53 := Tryz.underlying110
 a53 := Tryz.isAgg110
 z53 := Tryz.sizeOf110
 v53 := Tryz.zeroValue110
 t171 := Tryz.underlying109
 a171 := Tryz.isAgg109
 z171 := Tryz.sizeOf109
 v171 := Tryz.zeroValue109
 t173 := Tryz.underlying113
 a173 := Tryz.isAgg113
 z173 := Tryz.sizeOf113
 v173 := Tryz.zeroValue113
 t212 := Tryz.underlying124
 a212 := Tryz.isAgg124
 z212 := Tryz.sizeOf124
 v212 := Tryz.zeroValue124
 t213 := Tryz.underlying126
 a213 := Tryz.isAgg126
 z213 := Tryz.sizeOf126
 t232 := Tryz.underlying142
 a232 := Tryz.isAgg142
 z232 := Tryz.sizeOf142
 v232 := Tryz.zeroValue142
 t233 := Tryz.underlying143
 a233 := Tryz.isAgg143
 z233 := Tryz.sizeOf143
 v233 := Tryz.zeroValue143
 g17 := by kernel_rfl
 g18 := by kernel_rfl
 g19 := by kernel_rfl
 i0 := by kernel_rfl
 i2 := by kernel_rfl
 i3 := by kernel_rfl
 i4 := by kernel_rfl
 i5 := by kernel_rfl
 i9 := by kernel_rfl
 i20 := by kernel_rfl
 i37 := by kernel_rfl
 i46 := by kernel_rfl
 i51 := by kernel_rfl
 i53 := by kernel_rfl
 i171 := by kernel_rfl
 i173 := by kernel_rfl
 i212 := by kernel_rfl
 i232 := by kernel_rfl
 i233 := by kernel_rfl
 m17 := by kernel_rfl
 m18 := by kernel_rfl
 m19 := by kernel_rfl }
open Go.RowKit Go.Sort Go.Lib in
theorem Tryz.strconv_Itoa (n : Int) (h0 : -9223372036854775808 ≤ n) (h1 : n ≤ 9223372036854775807) (w : World) (htab : Lib.TabIs Tryz.prog w "internal/strconv.uint64pow10" .u64 Lib.pow10Tab) :
   Calls Tryz.prog 30 #[.int .i64 n] w fun e w' => e = .returned (.string ⟨(Lib.itoa n).toArray⟩) ∧ ∃ k os, w' = grow (w.drewN k) os := Any.strconv_Itoa Tryz.laysM171 n h0 h1 w htab
def Tryz.lays99_ren : Go.Shelf.Ren := ⟨fun | 99 => 46 | 206 => 62 | n => n, fun | 9 => 9 | 4 => 4 | 3 => 3 | n => n, fun | n => n⟩
theorem Tryz.lays99 : Go.Proofs.Lays.n99 Tryz.prog Tryz.lays99_ren := {
 mixed := by kernel_rfl
 f99 := Tryz.func46.trans (congrArg some (by kernel_rfl))
 f206 := Tryz.func62.trans (congrArg some (by kernel_rfl))
 t3 := Tryz.underlying3
 a3 := Tryz.isAgg3
 z3 := Tryz.sizeOf3
 v3 := Tryz.zeroValue3
 t4 := Tryz.underlying4
 a4 := Tryz.isAgg4
 z4 := Tryz.sizeOf4
 v4 := Tryz.zeroValue4
 t9 := Tryz.underlying9
 a9 := Tryz.isAgg9
 z9 := Tryz.sizeOf9
 v9 := Tryz.zeroValue9 }
open Go.RowKit Go.Lib in
theorem Tryz.strings_HasPrefix (s p : ByteArray) (w : World) :
   Calls Tryz.prog 46 #[.string s, .string p] w fun e w' => e = .returned (.bool (Lib.hasPrefix s.data.toList p.data.toList)) ∧ w' = w := Any.strings_HasPrefix Tryz.lays99 s p w
end Go.Proofs
