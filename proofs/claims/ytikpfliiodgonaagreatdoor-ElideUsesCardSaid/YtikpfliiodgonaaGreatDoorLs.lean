/- Ls: Shelf (merged by merge2.py from the working texts). -/
import Derived.Shelf.Small.Strs
import Derived.Shelf.Strconv.Atoi
import Derived.Shelf.Strconv.Itoa0
import Derived.Shelf.Strconv.Itoa1
import Derived.Shelf.LaysM
import Derived.Shelf.Strconv.Itoa2
import Derived.Shelf.Strconv.Itoa3
import Derived.Shelf.Strings.Search1
import Derived.Shelf.Strings.Prefix
import Derived.Shelf.Slices.Equal
import Derived.Test.YtikpfliiodgonaaGreatDoorProg
set_option linter.unusedSimpArgs false
set_option linter.unnecessarySimpa false
set_option linter.unusedVariables false
set_option linter.unusedSectionVars false
namespace Go.Proofs
open Go.Shelf
def Tryz.lays137_ren:Go.Shelf.Ren:=⟨fun|137=>163|217=>185|266=>203|n=>n,fun|9=>9|5=>5|3=>3|n=>n,fun|n=>n⟩
theorem Tryz.lays137:Go.Proofs.Lays.n137 Tryz.prog Tryz.lays137_ren:={
 mixed:=by kernel_rfl
 f137:=Tryz.func163.trans (congrArg some (by kernel_rfl))
 f217:=Tryz.func185.trans (congrArg some (by kernel_rfl))
 f266:=Tryz.func203.trans (congrArg some (by kernel_rfl))
 t3:=Tryz.underlying3
 a3:=Tryz.isAgg3
 z3:=Tryz.sizeOf3
 v3:=Tryz.zeroValue3
 t5:=Tryz.underlying5
 a5:=Tryz.isAgg5
 z5:=Tryz.sizeOf5
 v5:=Tryz.zeroValue5
 t9:=Tryz.underlying9
 a9:=Tryz.isAgg9
 z9:=Tryz.sizeOf9
 v9:=Tryz.zeroValue9 }
open Go.RowKit in
theorem Tryz.strings_IndexByte (s:ByteArray) (c:Int) (w:World) :
  Calls Tryz.prog 163 #[.string s,.int .u8 c] w fun e w'=>e = .returned (.int .i64 (Lib.indexByte s.data.toList c.toNat.toUInt8))/\w' = w:=Any.strings_IndexByte Tryz.lays137 s c w
def Tryz.lays172_ren:Go.Shelf.Ren:=⟨fun|172=>183|244=>201|245=>202|247=>209|279=>210|280=>211|281=>212|282=>213|287=>219|316=>220|171=>222|205=>221|321=>225|322=>226|243=>227|246=>230|283=>231|284=>232|285=>233|286=>234|129=>155|317=>235|318=>236|319=>237|320=>238|337=>239|338=>240|n=>n,fun|9=>9|3=>3|75=>234|76=>235|4=>4|5=>5|167=>247|37=>248|0=>0|85=>249|2=>2|168=>251|53=>207|175=>255|46=>152|210=>259|127=>264|145=>267|143=>265|21=>21|171=>269|173=>271|212=>273|51=>205|20=>20|213=>274|232=>275|233=>276|80=>167|n=>n,fun|15=>1|16=>2|17=>3|18=>4|19=>5|n=>n⟩
theorem Tryz.lays172:Go.Proofs.Lays.n172 Tryz.prog Tryz.lays172_ren:={
 mixed:=by kernel_rfl
 f129:=Tryz.func155.trans (congrArg some (by kernel_rfl))
 f171:=Tryz.func222.trans (congrArg some (by kernel_rfl))
 f172:=Tryz.func183.trans (congrArg some (by kernel_rfl))
 f205:=Tryz.func221.trans (congrArg some (by kernel_rfl))
 f243:=Tryz.func227.trans (congrArg some (by kernel_rfl))
 f244:=Tryz.func201.trans (congrArg some (by kernel_rfl))
 f245:=Tryz.func202.trans (congrArg some (by kernel_rfl))
 f246:=Tryz.func230.trans (congrArg some (by kernel_rfl))
 f247:=Tryz.func209.trans (congrArg some (by kernel_rfl))
 f279:=Tryz.func210.trans (congrArg some (by kernel_rfl))
 f280:=Tryz.func211.trans (congrArg some (by kernel_rfl))
 f281:=Tryz.func212.trans (congrArg some (by kernel_rfl))
 f282:=Tryz.func213.trans (congrArg some (by kernel_rfl))
 f283:=Tryz.func231.trans (congrArg some (by kernel_rfl))
 f284:=Tryz.func232.trans (congrArg some (by kernel_rfl))
 f285:=Tryz.func233.trans (congrArg some (by kernel_rfl))
 f286:=Tryz.func234.trans (congrArg some (by kernel_rfl))
 f287:=Tryz.func219.trans (congrArg some (by kernel_rfl))
 f316:=Tryz.func220.trans (congrArg some (by kernel_rfl))
 f317:=Tryz.func235.trans (congrArg some (by kernel_rfl))
 f318:=Tryz.func236.trans (congrArg some (by kernel_rfl))
 f319:=Tryz.func237.trans (congrArg some (by kernel_rfl))
 f320:=Tryz.func238.trans (congrArg some (by kernel_rfl))
 f321:=Tryz.func225.trans (congrArg some (by kernel_rfl))
 f322:=Tryz.func226.trans (congrArg some (by kernel_rfl))
 f337:=Tryz.func239.trans (congrArg some (by kernel_rfl))
 f338:=Tryz.func240.trans (congrArg some (by kernel_rfl))
 t0:=Tryz.underlying0
 a0:=Tryz.isAgg0
 z0:=Tryz.sizeOf0
 v0:=Tryz.zeroValue0
 t2:=Tryz.underlying2
 a2:=Tryz.isAgg2
 z2:=Tryz.sizeOf2
 v2:=Tryz.zeroValue2
 t3:=Tryz.underlying3
 a3:=Tryz.isAgg3
 z3:=Tryz.sizeOf3
 v3:=Tryz.zeroValue3
 t4:=Tryz.underlying4
 a4:=Tryz.isAgg4
 z4:=Tryz.sizeOf4
 v4:=Tryz.zeroValue4
 t5:=Tryz.underlying5
 a5:=Tryz.isAgg5
 z5:=Tryz.sizeOf5
 v5:=Tryz.zeroValue5
 t9:=Tryz.underlying9
 a9:=Tryz.isAgg9
 z9:=Tryz.sizeOf9
 v9:=Tryz.zeroValue9
 t20:=Tryz.underlying20
 a20:=Tryz.isAgg20
 z20:=Tryz.sizeOf20
 v20:=Tryz.zeroValue20
 t21:=Tryz.underlying21
 a21:=Tryz.isAgg21
 z21:=Tryz.sizeOf21
 v21:=Tryz.zeroValue21
 t37:=Tryz.underlying248
 a37:=Tryz.isAgg248
 z37:=Tryz.sizeOf248
 v37:=Tryz.zeroValue248
 t46:=Tryz.underlying152
 a46:=Tryz.isAgg152
 z46:=Tryz.sizeOf152
 v46:=Tryz.zeroValue152
 t51:=Tryz.underlying205
 a51:=Tryz.isAgg205
 z51:=Tryz.sizeOf205
 v51:=Tryz.zeroValue205
 t53:=Tryz.underlying207
 a53:=Tryz.isAgg207
 z53:=Tryz.sizeOf207
 v53:=Tryz.zeroValue207
 t75:=Tryz.underlying234
 a75:=Tryz.isAgg234
 z75:=Tryz.sizeOf234
 v75:=Tryz.zeroValue234
 t76:=Tryz.underlying235
 a76:=Tryz.isAgg235
 z76:=Tryz.sizeOf235
 v76:=Tryz.zeroValue235
 t85:=Tryz.underlying249
 a85:=Tryz.isAgg249
 z85:=Tryz.sizeOf249
 v85:=Tryz.zeroValue249
 t127:=Tryz.underlying264
 a127:=Tryz.isAgg264
 z127:=Tryz.sizeOf264
 v127:=Tryz.zeroValue264
 t143:=Tryz.underlying265
 a143:=Tryz.isAgg265
 z143:=Tryz.sizeOf265
 v143:=Tryz.zeroValue265
 t145:=Tryz.underlying267
 a145:=Tryz.isAgg267
 z145:=Tryz.sizeOf267
 v145:=Tryz.zeroValue267
 t167:=Tryz.underlying247
 a167:=Tryz.isAgg247
 z167:=Tryz.sizeOf247
 v167:=Tryz.zeroValue247
 t168:=Tryz.underlying251
 a168:=Tryz.isAgg251
 z168:=Tryz.sizeOf251
 v168:=Tryz.zeroValue251
 t171:=Tryz.underlying269
 a171:=Tryz.isAgg269
 z171:=Tryz.sizeOf269
 v171:=Tryz.zeroValue269
 t173:=Tryz.underlying271
 a173:=Tryz.isAgg271
 z173:=Tryz.sizeOf271
 v173:=Tryz.zeroValue271
 t175:=Tryz.underlying255
 a175:=Tryz.isAgg255
 z175:=Tryz.sizeOf255
 v175:=Tryz.zeroValue255
 t210:=Tryz.underlying259
 a210:=Tryz.isAgg259
 z210:=Tryz.sizeOf259
 v210:=Tryz.zeroValue259
 t212:=Tryz.underlying273
 a212:=Tryz.isAgg273
 z212:=Tryz.sizeOf273
 v212:=Tryz.zeroValue273
 t213:=Tryz.underlying274
 a213:=Tryz.isAgg274
 z213:=Tryz.sizeOf274
 t232:=Tryz.underlying275
 a232:=Tryz.isAgg275
 z232:=Tryz.sizeOf275
 v232:=Tryz.zeroValue275
 t233:=Tryz.underlying276
 a233:=Tryz.isAgg276
 z233:=Tryz.sizeOf276
 v233:=Tryz.zeroValue276
 g15:=by kernel_rfl
 g16:=by kernel_rfl
 g17:=by kernel_rfl
 g18:=by kernel_rfl
 g19:=by kernel_rfl }
open Go.RowKit in
theorem Tryz.strconv_Atoi (s:ByteArray) (n:Int) (hl:s.size<=18) (h:Lib.atoi s.data.toList=some n) (w:World) :
  Calls Tryz.prog 183 #[.string s] w fun e w'=>e = .returned (.tuple #[.int .i64 n,.nilIface])/\∃t,w' = Lib.bytesWorld w 5 t:=Any.strconv_Atoi Tryz.lays172 s n hl h w
def Tryz.lays99_ren:Go.Shelf.Ren:=⟨fun|99=>162|206=>184|n=>n,fun|9=>9|4=>4|3=>3|n=>n,fun|n=>n⟩
theorem Tryz.lays99:Go.Proofs.Lays.n99 Tryz.prog Tryz.lays99_ren:={
 mixed:=by kernel_rfl
 f99:=Tryz.func162.trans (congrArg some (by kernel_rfl))
 f206:=Tryz.func184.trans (congrArg some (by kernel_rfl))
 t3:=Tryz.underlying3
 a3:=Tryz.isAgg3
 z3:=Tryz.sizeOf3
 v3:=Tryz.zeroValue3
 t4:=Tryz.underlying4
 a4:=Tryz.isAgg4
 z4:=Tryz.sizeOf4
 v4:=Tryz.zeroValue4
 t9:=Tryz.underlying9
 a9:=Tryz.isAgg9
 z9:=Tryz.sizeOf9
 v9:=Tryz.zeroValue9 }
open Go.RowKit Go.Lib in
theorem Tryz.strings_HasPrefix (s p:ByteArray) (w:World) :
  Calls Tryz.prog 162 #[.string s,.string p] w fun e w'=>e = .returned (.bool (Lib.hasPrefix s.data.toList p.data.toList))/\w' = w:=Any.strings_HasPrefix Tryz.lays99 s p w
end Go.Proofs
