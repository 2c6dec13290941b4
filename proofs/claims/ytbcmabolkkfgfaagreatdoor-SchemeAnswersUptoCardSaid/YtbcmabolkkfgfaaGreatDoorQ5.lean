/- Packed. -/
import Derived.Test.YtbcmabolkkfgfaaGreatDoorQ4
set_option maxRecDepth 100000
set_option maxHeartbeats 2000000
open Go.Value renaming int → I
open Go.IntKind renaming i64 → O
namespace Go.Proofs
open Go.Shelf
def Tryz.lays170_ren:Go.Shelf.Ren:=⟨fun|170=>63|n=>n,fun|70=>91|3=>3|0=>0|72=>93|37=>47|5=>5|n=>n,fun|n=>n⟩
theorem Tryz.lays170:Go.Proofs.Lays.n170 Tryz.prog Tryz.lays170_ren:={
 mixed:=by kernel_rfl
 f170:=Tryz.func63.trans (congrArg some (by kernel_rfl))
 t0:=Tryz.underlying0
 a0:=Tryz.isAgg0
 z0:=Tryz.sizeOf0
 v0:=Tryz.zeroValue0
 t3:=Tryz.underlying3
 a3:=Tryz.isAgg3
 z3:=Tryz.sizeOf3
 v3:=Tryz.zeroValue3
 t37:=Tryz.underlying47
 a37:=Tryz.isAgg47
 z37:=Tryz.sizeOf47
 v37:=Tryz.zeroValue47
 t70:=Tryz.underlying91
 a70:=Tryz.isAgg91
 z70:=Tryz.sizeOf91
 v70:=Tryz.zeroValue91
 t72:=Tryz.underlying93
 a72:=Tryz.isAgg93
 z72:=Tryz.sizeOf93
 v72:=Tryz.zeroValue93 }
def Tryz.lays169_ren:Go.Shelf.Ren:=⟨fun|169=>64|n=>n,fun|70=>91|9=>9|0=>0|72=>93|37=>47|127=>130|3=>3|5=>5|n=>n,fun|n=>n⟩
theorem Tryz.lays169:Go.Proofs.Lays.n169 Tryz.prog Tryz.lays169_ren:={
 mixed:=by kernel_rfl
 f169:=Tryz.func64.trans (congrArg some (by kernel_rfl))
 t0:=Tryz.underlying0
 a0:=Tryz.isAgg0
 z0:=Tryz.sizeOf0
 v0:=Tryz.zeroValue0
 t3:=Tryz.underlying3
 a3:=Tryz.isAgg3
 z3:=Tryz.sizeOf3
 v3:=Tryz.zeroValue3
 t9:=Tryz.underlying9
 a9:=Tryz.isAgg9
 z9:=Tryz.sizeOf9
 v9:=Tryz.zeroValue9
 t37:=Tryz.underlying47
 a37:=Tryz.isAgg47
 z37:=Tryz.sizeOf47
 v37:=Tryz.zeroValue47
 t70:=Tryz.underlying91
 a70:=Tryz.isAgg91
 z70:=Tryz.sizeOf91
 v70:=Tryz.zeroValue91
 t72:=Tryz.underlying93
 a72:=Tryz.isAgg93
 z72:=Tryz.sizeOf93
 v72:=Tryz.zeroValue93
 t127:=Tryz.underlying130
 a127:=Tryz.isAgg130
 z127:=Tryz.sizeOf130
 v127:=Tryz.zeroValue130 }
theorem Tryz.Builder_Extra_169:Builder.Extra Tryz.prog Tryz.lays169_ren:={
 sizeBuilder:=by kernel_rfl
 liesBuilder:=by kernel_rfl
 t5:=Tryz.underlying5
 a5:=Tryz.isAgg5
 z5:=Tryz.sizeOf5
 v5:=Tryz.zeroValue5
 infoByte:=by kernel_rfl
 cellsByte:=by kernel_rfl
 sizeByte:=by kernel_rfl
 neB5:=by decide }
def Tryz.lays156_ren:Go.Shelf.Ren:=⟨fun|156=>61|165=>98|166=>60|169=>64|240=>97|241=>122|276=>121|277=>139|n=>n,fun|31=>48|9=>9|3=>3|4=>4|0=>0|20=>20|72=>93|76=>97|70=>91|37=>47|75=>96|127=>130|164=>137|5=>5|80=>102|n=>n,fun|n=>n⟩
theorem Tryz.lays156:Go.Proofs.Lays.n156 Tryz.prog Tryz.lays156_ren:={
 mixed:=by kernel_rfl
 f156:=Tryz.func61.trans (congrArg some (by kernel_rfl))
 f165:=Tryz.func98.trans (congrArg some (by kernel_rfl))
 f166:=Tryz.func60.trans (congrArg some (by kernel_rfl))
 f169:=Tryz.func64.trans (congrArg some (by kernel_rfl))
 f240:=Tryz.func97.trans (congrArg some (by kernel_rfl))
 f241:=Tryz.func122.trans (congrArg some (by kernel_rfl))
 f276:=Tryz.func121.trans (congrArg some (by kernel_rfl))
 f277:=Tryz.func139.trans (congrArg some (by kernel_rfl))
 t0:=Tryz.underlying0
 a0:=Tryz.isAgg0
 z0:=Tryz.sizeOf0
 v0:=Tryz.zeroValue0
 t3:=Tryz.underlying3
 a3:=Tryz.isAgg3
 z3:=Tryz.sizeOf3
 v3:=Tryz.zeroValue3
 t4:=Tryz.underlying4
 a4:=Tryz.isAgg4
 z4:=Tryz.sizeOf4
 v4:=Tryz.zeroValue4
 t9:=Tryz.underlying9
 a9:=Tryz.isAgg9
 z9:=Tryz.sizeOf9
 v9:=Tryz.zeroValue9
 t20:=Tryz.underlying20
 a20:=Tryz.isAgg20
 z20:=Tryz.sizeOf20
 v20:=Tryz.zeroValue20
 t31:=Tryz.underlying48
 a31:=Tryz.isAgg48
 z31:=Tryz.sizeOf48
 v31:=Tryz.zeroValue48
 t37:=Tryz.underlying47
 a37:=Tryz.isAgg47
 z37:=Tryz.sizeOf47
 v37:=Tryz.zeroValue47
 t70:=Tryz.underlying91
 a70:=Tryz.isAgg91
 z70:=Tryz.sizeOf91
 v70:=Tryz.zeroValue91
 t72:=Tryz.underlying93
 a72:=Tryz.isAgg93
 z72:=Tryz.sizeOf93
 v72:=Tryz.zeroValue93
 t75:=Tryz.underlying96
 a75:=Tryz.isAgg96
 z75:=Tryz.sizeOf96
 v75:=Tryz.zeroValue96
 t76:=Tryz.underlying97
 a76:=Tryz.isAgg97
 z76:=Tryz.sizeOf97
 v76:=Tryz.zeroValue97
 t127:=Tryz.underlying130
 a127:=Tryz.isAgg130
 z127:=Tryz.sizeOf130
 v127:=Tryz.zeroValue130
 t164:=Tryz.underlying137
 a164:=Tryz.isAgg137
 z164:=Tryz.sizeOf137
 v164:=Tryz.zeroValue137 }
theorem Tryz.Builder_Extra_156:Builder.Extra Tryz.prog Tryz.lays156_ren:={
 sizeBuilder:=by kernel_rfl
 liesBuilder:=by kernel_rfl
 t5:=Tryz.underlying5
 a5:=Tryz.isAgg5
 z5:=Tryz.sizeOf5
 v5:=Tryz.zeroValue5
 infoByte:=by kernel_rfl
 cellsByte:=by kernel_rfl
 sizeByte:=by kernel_rfl
 neB5:=by decide }
open Go.RowKit in
theorem Tryz.strings_Join_none (a:Option Addr)(c:Nat)(sep:ByteArray)(w:World) :
  Calls Tryz.prog 61 #[.slice a 0 c,.string sep] w fun e w' => e = .returned (.string ⟨#[]⟩)∧w' = w:=Any.strings_Join_none Tryz.lays156 Tryz.Builder_Extra_156 a c sep w
open Go.RowKit in
theorem Tryz.strings_Join (bk o c:Nat)(xs:List ByteArray)(sep:ByteArray)(w:World)(hcells:∀(j:Nat) x,xs[j]?=some x→w.cell? ⟨bk,o+j,none⟩=some (.string x))(hbk:bk<w.heap.size)(hN:xs.length≤140737488355328)(hcap:xs.length≤c)(hlen:(Lib.join (xs.map (·.data.toList)) sep.data.toList).length≤140737488355328) :
  Calls Tryz.prog 61 #[.slice (some ⟨bk,o,none⟩) xs.length c,.string sep] w fun e w' => e = .returned (.string ⟨(Lib.join (xs.map (·.data.toList)) sep.data.toList).toArray⟩)∧Below w.heap.size w w' := Any.strings_Join Tryz.lays156 Tryz.Builder_Extra_156 bk o c xs sep w hcells hbk hN hcap hlen
def Tryz.lays137_ren:Go.Shelf.Ren:=⟨fun|137=>82|217=>110|266=>130|n=>n,fun|9=>9|5=>5|3=>3|n=>n,fun|n=>n⟩
theorem Tryz.lays137:Go.Proofs.Lays.n137 Tryz.prog Tryz.lays137_ren:={
 mixed:=by kernel_rfl
 f137:=Tryz.func82.trans (congrArg some (by kernel_rfl))
 f217:=Tryz.func110.trans (congrArg some (by kernel_rfl))
 f266:=Tryz.func130.trans (congrArg some (by kernel_rfl))
 t3:=Tryz.underlying3
 a3:=Tryz.isAgg3
 z3:=Tryz.sizeOf3
 v3:=Tryz.zeroValue3
 t5:=Tryz.underlying5
 a5:=Tryz.isAgg5
 z5:=Tryz.sizeOf5
 v5:=Tryz.zeroValue5
 t9:=Tryz.underlying9
 a9:=Tryz.isAgg9
 z9:=Tryz.sizeOf9
 v9:=Tryz.zeroValue9 }
open Go.RowKit in
theorem Tryz.strings_IndexByte (s:ByteArray)(c:Int)(w:World) :
  Calls Tryz.prog 82 #[.string s,.int .u8 c] w fun e w' => e = .returned (I O (Lib.indexByte s.data.toList c.toNat.toUInt8))∧w' = w:=Any.strings_IndexByte Tryz.lays137 s c w
open Go.RowKit in
theorem Tryz.Builder_Len_f (B b:Nat)(bs:List Value)(w:World)(h:Lib.IsBuilderF 93 5 B b bs w) :
  Calls Tryz.prog 63 #[.pointer (some ⟨b,0,none⟩)] w fun e w' => e = .returned (I O bs.length)∧w' = w:=Any.Builder_Len_f Tryz.lays170 B b bs w h
open Go.RowKit in
theorem Tryz.Builder_String_any_k (B b:Nat)(l:List UInt8)(w:World)(h:Lib.IsBuilderF 93 5 B b (Lib.byteCells l) w)(hBw:B≤w.heap.size) :
  Calls Tryz.prog 64 #[.pointer (some ⟨b,0,none⟩)] w fun e w' => e = .returned (.string ⟨l.toArray⟩)∧(Lib.IsBuilderF 93 5 B b (Lib.byteCells l) w' ∧ Below B w w' ∧ Lib.OthersKept 5 (some b) w w'):=Any.Builder_String_any_k Tryz.lays169 Tryz.Builder_Extra_169 B b l w h hBw
def Tryz.laysM171_ren:Go.Shelf.Ren:=⟨fun|171=>93|243=>119|246=>137|283=>154|284=>155|285=>156|286=>157|129=>165|317=>164|318=>166|319=>167|320=>168|337=>172|338=>173|n=>n,fun|3=>3|9=>9|2=>2|4=>4|171=>167|0=>0|53=>166|37=>47|5=>5|173=>169|212=>179|51=>161|20=>20|213=>180|46=>147|232=>189|233=>190|n=>n,fun|17=>3|18=>6|19=>7|n=>n⟩
theorem Tryz.laysM171:Go.Proofs.LaysM.n171 Tryz.prog Tryz.laysM171_ren:={
 mixed:=by kernel_rfl
 f129:=Tryz.func165.trans (congrArg some (by kernel_rfl))
 f171:=Tryz.func93.trans (congrArg some (by kernel_rfl))
 f243:=Tryz.func119.trans (congrArg some (by kernel_rfl))
 f246:=Tryz.func137.trans (congrArg some (by kernel_rfl))
 f283:=Tryz.func154.trans (congrArg some (by kernel_rfl))
 f284:=Tryz.func155.trans (congrArg some (by kernel_rfl))
 f285:=Tryz.func156.trans (congrArg some (by kernel_rfl))
 f286:=Tryz.func157.trans (congrArg some (by kernel_rfl))
 f317:=Tryz.func164.trans (congrArg some (by kernel_rfl))
 f318:=Tryz.func166.trans (congrArg some (by kernel_rfl))
 f319:=Tryz.func167.trans (congrArg some (by kernel_rfl))
 f320:=Tryz.func168.trans (congrArg some (by kernel_rfl))
 f337:=Tryz.func172.trans (congrArg some (by kernel_rfl))
 f338:=Tryz.func173.trans (congrArg some (by kernel_rfl))
 t0:=Tryz.underlying0
 a0:=Tryz.isAgg0
 z0:=Tryz.sizeOf0
 v0:=Tryz.zeroValue0
 t2:=Tryz.underlying2
 a2:=Tryz.isAgg2
 z2:=Tryz.sizeOf2
 v2:=Tryz.zeroValue2
 t3:=Tryz.underlying3
 a3:=Tryz.isAgg3
 z3:=Tryz.sizeOf3
 v3:=Tryz.zeroValue3
 t4:=Tryz.underlying4
 a4:=Tryz.isAgg4
 z4:=Tryz.sizeOf4
 v4:=Tryz.zeroValue4
 t5:=Tryz.underlying5
 a5:=Tryz.isAgg5
 z5:=Tryz.sizeOf5
 v5:=Tryz.zeroValue5
 t9:=Tryz.underlying9
 a9:=Tryz.isAgg9
 z9:=Tryz.sizeOf9
 v9:=Tryz.zeroValue9
 t20:=Tryz.underlying20
 a20:=Tryz.isAgg20
 z20:=Tryz.sizeOf20
 v20:=Tryz.zeroValue20
 t37:=Tryz.underlying47
 a37:=Tryz.isAgg47
 z37:=Tryz.sizeOf47
 v37:=Tryz.zeroValue47
 t46:=Tryz.underlying147
 a46:=Tryz.isAgg147
 z46:=Tryz.sizeOf147
 v46:=Tryz.zeroValue147
 t51:=Tryz.underlying161
 a51:=Tryz.isAgg161
 z51:=Tryz.sizeOf161
 v51:=Tryz.zeroValue161
 t53:=Tryz.underlying166
 a53:=Tryz.isAgg166
 z53:=Tryz.sizeOf166
 v53:=Tryz.zeroValue166
 t171:=Tryz.underlying167
 a171:=Tryz.isAgg167
 z171:=Tryz.sizeOf167
 v171:=Tryz.zeroValue167
 t173:=Tryz.underlying169
 a173:=Tryz.isAgg169
 z173:=Tryz.sizeOf169
 v173:=Tryz.zeroValue169
 t212:=Tryz.underlying179
 a212:=Tryz.isAgg179
 z212:=Tryz.sizeOf179
 v212:=Tryz.zeroValue179
 t213:=Tryz.underlying180
 a213:=Tryz.isAgg180
 z213:=Tryz.sizeOf180
 t232:=Tryz.underlying189
 a232:=Tryz.isAgg189
 z232:=Tryz.sizeOf189
 v232:=Tryz.zeroValue189
 t233:=Tryz.underlying190
 a233:=Tryz.isAgg190
 z233:=Tryz.sizeOf190
 v233:=Tryz.zeroValue190
 g17:=by kernel_rfl
 g18:=by kernel_rfl
 g19:=by kernel_rfl
 i0:=by kernel_rfl
 i2:=by kernel_rfl
 i3:=by kernel_rfl
 i4:=by kernel_rfl
 i5:=by kernel_rfl
 i9:=by kernel_rfl
 i20:=by kernel_rfl
 i37:=by kernel_rfl
 i46:=by kernel_rfl
 i51:=by kernel_rfl
 i53:=by kernel_rfl
 i171:=by kernel_rfl
 i173:=by kernel_rfl
 i212:=by kernel_rfl
 i232:=by kernel_rfl
 i233:=by kernel_rfl
 m17:=by kernel_rfl
 m18:=by kernel_rfl
 m19:=by kernel_rfl }
open Go.RowKit Go.Sort Go.Lib in
theorem Tryz.strconv_Itoa (n:Int)(h0 : -9223372036854775808≤n)(h1:n≤9223372036854775807)(w:World)(htab:Lib.TabIs Tryz.prog w "internal/strconv.uint64pow10" .u64 Lib.pow10Tab) :
  Calls Tryz.prog 93 #[I O n] w fun e w' => e = .returned (.string ⟨(Lib.itoa n).toArray⟩)∧∃k os,w' = grow (w.drewN k) os:=Any.strconv_Itoa Tryz.laysM171 n h0 h1 w htab
def Tryz.laysC172_ren:Go.Shelf.Ren:=⟨fun|172=>107|244=>125|245=>126|247=>141|279=>142|280=>143|281=>144|282=>145|287=>160|316=>161|171=>93|205=>162|321=>169|322=>170|243=>119|246=>137|283=>154|284=>155|285=>156|286=>157|129=>165|317=>164|318=>166|319=>167|320=>168|337=>172|338=>173|n=>n,fun|9=>9|3=>3|75=>96|76=>97|4=>4|5=>5|167=>154|37=>47|0=>0|85=>155|2=>2|168=>157|53=>166|175=>172|46=>147|210=>176|127=>130|145=>188|143=>186|21=>21|171=>167|173=>169|212=>179|51=>161|20=>20|213=>180|232=>189|233=>190|80=>102|n=>n,fun|15=>1|16=>2|17=>3|18=>6|19=>7|n=>n⟩
theorem Tryz.laysC172:Go.Proofs.LaysC.n172 Tryz.prog Tryz.laysC172_ren:={
 mixed:=by kernel_rfl
 f129:=Tryz.func165.trans (congrArg some (by kernel_rfl))
 f171:=Tryz.func93.trans (congrArg some (by kernel_rfl))
 f172:=Tryz.func107.trans (congrArg some (by kernel_rfl))
 f205:=Tryz.func162.trans (congrArg some (by kernel_rfl))
 f243:=Tryz.func119.trans (congrArg some (by kernel_rfl))
 f244:=Tryz.func125.trans (congrArg some (by kernel_rfl))
 f245:=Tryz.func126.trans (congrArg some (by kernel_rfl))
 f246:=Tryz.func137.trans (congrArg some (by kernel_rfl))
 f247:=Tryz.func141.trans (congrArg some (by kernel_rfl))
 f279:=Tryz.func142.trans (congrArg some (by kernel_rfl))
 f280:=Tryz.func143.trans (congrArg some (by kernel_rfl))
 f281:=Tryz.func144.trans (congrArg some (by kernel_rfl))
 f282:=Tryz.func145.trans (congrArg some (by kernel_rfl))
 f283:=Tryz.func154.trans (congrArg some (by kernel_rfl))
 f284:=Tryz.func155.trans (congrArg some (by kernel_rfl))
 f285:=Tryz.func156.trans (congrArg some (by kernel_rfl))
 f286:=Tryz.func157.trans (congrArg some (by kernel_rfl))
 f287:=Tryz.func160.trans (congrArg some (by kernel_rfl))
 f316:=Tryz.func161.trans (congrArg some (by kernel_rfl))
 f317:=Tryz.func164.trans (congrArg some (by kernel_rfl))
 f318:=Tryz.func166.trans (congrArg some (by kernel_rfl))
 f319:=Tryz.func167.trans (congrArg some (by kernel_rfl))
 f320:=Tryz.func168.trans (congrArg some (by kernel_rfl))
 f321:=Tryz.func169.trans (congrArg some (by kernel_rfl))
 f322:=Tryz.func170.trans (congrArg some (by kernel_rfl))
 f337:=Tryz.func172.trans (congrArg some (by kernel_rfl))
 f338:=Tryz.func173.trans (congrArg some (by kernel_rfl))
 t0:=Tryz.underlying0
 a0:=Tryz.isAgg0
 z0:=Tryz.sizeOf0
 v0:=Tryz.zeroValue0
 t2:=Tryz.underlying2
 a2:=Tryz.isAgg2
 z2:=Tryz.sizeOf2
 v2:=Tryz.zeroValue2
 t3:=Tryz.underlying3
 a3:=Tryz.isAgg3
 z3:=Tryz.sizeOf3
 v3:=Tryz.zeroValue3
 t4:=Tryz.underlying4
 a4:=Tryz.isAgg4
 z4:=Tryz.sizeOf4
 v4:=Tryz.zeroValue4
 t5:=Tryz.underlying5
 a5:=Tryz.isAgg5
 z5:=Tryz.sizeOf5
 v5:=Tryz.zeroValue5
 t9:=Tryz.underlying9
 a9:=Tryz.isAgg9
 z9:=Tryz.sizeOf9
 v9:=Tryz.zeroValue9
 t20:=Tryz.underlying20
 a20:=Tryz.isAgg20
 z20:=Tryz.sizeOf20
 v20:=Tryz.zeroValue20
 t21:=Tryz.underlying21
 a21:=Tryz.isAgg21
 z21:=Tryz.sizeOf21
 v21:=Tryz.zeroValue21
 t37:=Tryz.underlying47
 a37:=Tryz.isAgg47
 z37:=Tryz.sizeOf47
 v37:=Tryz.zeroValue47
 t46:=Tryz.underlying147
 a46:=Tryz.isAgg147
 z46:=Tryz.sizeOf147
 v46:=Tryz.zeroValue147
 t51:=Tryz.underlying161
 a51:=Tryz.isAgg161
 z51:=Tryz.sizeOf161
 v51:=Tryz.zeroValue161
 t53:=Tryz.underlying166
 a53:=Tryz.isAgg166
 z53:=Tryz.sizeOf166
 v53:=Tryz.zeroValue166
 t75:=Tryz.underlying96
 a75:=Tryz.isAgg96
 z75:=Tryz.sizeOf96
 v75:=Tryz.zeroValue96
 t76:=Tryz.underlying97
 a76:=Tryz.isAgg97
 z76:=Tryz.sizeOf97
 v76:=Tryz.zeroValue97
 t85:=Tryz.underlying155
 a85:=Tryz.isAgg155
 z85:=Tryz.sizeOf155
 v85:=Tryz.zeroValue155
 t127:=Tryz.underlying130
 a127:=Tryz.isAgg130
 z127:=Tryz.sizeOf130
 v127:=Tryz.zeroValue130
 t143:=Tryz.underlying186
 a143:=Tryz.isAgg186
 z143:=Tryz.sizeOf186
 v143:=Tryz.zeroValue186
 t145:=Tryz.underlying188
 a145:=Tryz.isAgg188
 z145:=Tryz.sizeOf188
 v145:=Tryz.zeroValue188
 t167:=Tryz.underlying154
 a167:=Tryz.isAgg154
 z167:=Tryz.sizeOf154
 v167:=Tryz.zeroValue154
 t168:=Tryz.underlying157
 a168:=Tryz.isAgg157
 z168:=Tryz.sizeOf157
 v168:=Tryz.zeroValue157
 t171:=Tryz.underlying167
 a171:=Tryz.isAgg167
 z171:=Tryz.sizeOf167
 v171:=Tryz.zeroValue167
 t173:=Tryz.underlying169
 a173:=Tryz.isAgg169
 z173:=Tryz.sizeOf169
 v173:=Tryz.zeroValue169
 t175:=Tryz.underlying172
 a175:=Tryz.isAgg172
 z175:=Tryz.sizeOf172
 v175:=Tryz.zeroValue172
 t210:=Tryz.underlying176
 a210:=Tryz.isAgg176
 z210:=Tryz.sizeOf176
 v210:=Tryz.zeroValue176
 t212:=Tryz.underlying179
 a212:=Tryz.isAgg179
 z212:=Tryz.sizeOf179
 v212:=Tryz.zeroValue179
 t213:=Tryz.underlying180
 a213:=Tryz.isAgg180
 z213:=Tryz.sizeOf180
 t232:=Tryz.underlying189
 a232:=Tryz.isAgg189
 z232:=Tryz.sizeOf189
 v232:=Tryz.zeroValue189
 t233:=Tryz.underlying190
 a233:=Tryz.isAgg190
 z233:=Tryz.sizeOf190
 v233:=Tryz.zeroValue190
 g15:=by kernel_rfl
 g16:=by kernel_rfl
 g17:=by kernel_rfl
 g18:=by kernel_rfl
 g19:=by kernel_rfl
 t80:=Tryz.underlying102
 a80:=Tryz.isAgg102
 z80:=Tryz.sizeOf102
 v80:=Tryz.zeroValue102
 i0:=by kernel_rfl
 i2:=by kernel_rfl
 i3:=by kernel_rfl
 i4:=by kernel_rfl
 i5:=by kernel_rfl
 i9:=by kernel_rfl
 i20:=by kernel_rfl
 i21:=by kernel_rfl
 i37:=by kernel_rfl
 i46:=by kernel_rfl
 i51:=by kernel_rfl
 i53:=by kernel_rfl
 i75:=by kernel_rfl
 i76:=by kernel_rfl
 i80:=by kernel_rfl
 i85:=by kernel_rfl
 i127:=by kernel_rfl
 i143:=by kernel_rfl
 i145:=by kernel_rfl
 i167:=by kernel_rfl
 i168:=by kernel_rfl
 i171:=by kernel_rfl
 i173:=by kernel_rfl
 i175:=by kernel_rfl
 i210:=by kernel_rfl
 i212:=by kernel_rfl
 i232:=by kernel_rfl
 i233:=by kernel_rfl
 m15:=by kernel_rfl
 m16:=by kernel_rfl
 m17:=by kernel_rfl
 m18:=by kernel_rfl
 m19:=by kernel_rfl
 c0:=by kernel_rfl
 c2:=by kernel_rfl
 c3:=by kernel_rfl
 c4:=by kernel_rfl
 c5:=by kernel_rfl
 c9:=by kernel_rfl
 c20:=by kernel_rfl
 c21:=by kernel_rfl
 c37:=by kernel_rfl
 c46:=by kernel_rfl
 c51:=by kernel_rfl
 c53:=by kernel_rfl
 c75:=by kernel_rfl
 c76:=by kernel_rfl
 c80:=by kernel_rfl
 c85:=by kernel_rfl
 c127:=by kernel_rfl
 c143:=by kernel_rfl
 c145:=by kernel_rfl
 c167:=by kernel_rfl
 c168:=by kernel_rfl
 c171:=by kernel_rfl
 c173:=by kernel_rfl
 c175:=by kernel_rfl
 c210:=by kernel_rfl
 c212:=by kernel_rfl
 c213:=by kernel_rfl
 c232:=by kernel_rfl
 c233:=by kernel_rfl }
open Go.RowKit in
theorem Tryz.strconv_Atoi_ok (s:ByteArray)(hmax:s.size≤9223372036854775806)(v:Int)(h:Lib.atoiAll s.data.toList = .ok v)(w:World) :
  Calls Tryz.prog 107 #[.string s] w fun e w' => e = .returned (.tuple #[I O v,.nilIface])∧(w' = w∨∃t,w' = Lib.bytesWorld w 5 t):=Any.strconv_Atoi_ok Tryz.laysC172 s hmax v h w
open Go.RowKit in
theorem Tryz.strconv_Atoi_bad_var (s:ByteArray)(hlim:s.size≤281474976710656)(h1:∀v,Lib.atoiAll s.data.toList ≠ .ok v)(h2:Lib.atoiAll s.data.toList ≠ .range)(tp:TypeId)(p:Value)(w:World)(hvar:w.var? Tryz.prog "strconv.ErrSyntax" = some #[.iface tp p]) :
  Calls Tryz.prog 107 #[.string s] w fun e w' => ∃N,e = .returned (.tuple #[I O 0,.iface 157 (.pointer (some ⟨N,0,none⟩))])∧w.heap.size≤N∧w'.heap[N]?=some (.cells #[.string ⟨#[65,116,111,105]⟩,.string s,.iface tp p] 176 (0,0))∧Below w.heap.size w w' :=by
 cases e:Lib.atoiAll s.data.toList with
 | ok v=>exact absurd e (h1 v)
 | range=>exact absurd e h2
 | _=>exact Any.strconv_Atoi_syntax_var Tryz.laysC172 s hlim e tp p w hvar
open Go.RowKit in
theorem Tryz.strconv_Atoi_range_var (s:ByteArray)(hlim:s.size≤281474976710656)(h:Lib.atoiAll s.data.toList = .range)(tp:TypeId)(p:Value)(w:World)(hvar:w.var? Tryz.prog "strconv.ErrRange" = some #[.iface tp p]) :
  Calls Tryz.prog 107 #[.string s] w fun e w' => ∃N,e = .returned (.tuple #[I O (Lib.atoiSat s.data.toList),.iface 157 (.pointer (some ⟨N,0,none⟩))])∧w.heap.size≤N∧w'.heap[N]?=some (.cells #[.string ⟨#[65,116,111,105]⟩,.string s,.iface tp p] 176 (0,0))∧Below w.heap.size w w' := Any.strconv_Atoi_range_var Tryz.laysC172 s hlim h tp p w hvar
def Tryz.lays143_ren:Go.Shelf.Ren:=⟨fun|143=>87|219=>112|217=>110|225=>132|224=>133|267=>134|266=>130|314=>151|n=>n,fun|9=>9|3=>3|4=>4|5=>5|46=>147|146=>162|51=>161|n=>n,fun|1=>0|n=>n⟩
theorem Tryz.lays143:Go.Proofs.Lays.n143 Tryz.prog Tryz.lays143_ren:={
 mixed:=by kernel_rfl
 f143:=Tryz.func87.trans (congrArg some (by kernel_rfl))
 f217:=Tryz.func110.trans (congrArg some (by kernel_rfl))
 f219:=Tryz.func112.trans (congrArg some (by kernel_rfl))
 f224:=Tryz.func133.trans (congrArg some (by kernel_rfl))
 f225:=Tryz.func132.trans (congrArg some (by kernel_rfl))
 f266:=Tryz.func130.trans (congrArg some (by kernel_rfl))
 f267:=Tryz.func134.trans (congrArg some (by kernel_rfl))
 f314:=Tryz.func151.trans (congrArg some (by kernel_rfl))
 t3:=Tryz.underlying3
 a3:=Tryz.isAgg3
 z3:=Tryz.sizeOf3
 v3:=Tryz.zeroValue3
 t4:=Tryz.underlying4
 a4:=Tryz.isAgg4
 z4:=Tryz.sizeOf4
 v4:=Tryz.zeroValue4
 t5:=Tryz.underlying5
 a5:=Tryz.isAgg5
 z5:=Tryz.sizeOf5
 v5:=Tryz.zeroValue5
 t9:=Tryz.underlying9
 a9:=Tryz.isAgg9
 z9:=Tryz.sizeOf9
 v9:=Tryz.zeroValue9
 t46:=Tryz.underlying147
 a46:=Tryz.isAgg147
 z46:=Tryz.sizeOf147
 v46:=Tryz.zeroValue147
 t51:=Tryz.underlying161
 a51:=Tryz.isAgg161
 z51:=Tryz.sizeOf161
 v51:=Tryz.zeroValue161
 t146:=Tryz.underlying162
 a146:=Tryz.isAgg162
 z146:=Tryz.sizeOf162
 v146:=Tryz.zeroValue162
 g1:=by kernel_rfl }
open Go.RowKit Go.Lib in
theorem Tryz.strings_Index_one (s:ByteArray)(c:UInt8)(w:World) :
  Calls Tryz.prog 87 #[.string s,.string ⟨#[c]⟩] w fun e w' => e = .returned (I O (Lib.indexByte s.data.toList c))∧w' = w:=Any.strings_Index_one Tryz.lays143 s c w
def Tryz.lays144_ren:Go.Shelf.Ren:=⟨fun|144=>171|143=>87|219=>112|217=>110|225=>132|224=>133|267=>134|266=>130|314=>151|n=>n,fun|9=>9|4=>4|3=>3|5=>5|46=>147|146=>162|51=>161|n=>n,fun|1=>0|n=>n⟩
theorem Tryz.lays144:Go.Proofs.Lays.n144 Tryz.prog Tryz.lays144_ren:={
 mixed:=by kernel_rfl
 f143:=Tryz.func87.trans (congrArg some (by kernel_rfl))
 f144:=Tryz.func171.trans (congrArg some (by kernel_rfl))
 f217:=Tryz.func110.trans (congrArg some (by kernel_rfl))
 f219:=Tryz.func112.trans (congrArg some (by kernel_rfl))
 f224:=Tryz.func133.trans (congrArg some (by kernel_rfl))
 f225:=Tryz.func132.trans (congrArg some (by kernel_rfl))
 f266:=Tryz.func130.trans (congrArg some (by kernel_rfl))
 f267:=Tryz.func134.trans (congrArg some (by kernel_rfl))
 f314:=Tryz.func151.trans (congrArg some (by kernel_rfl))
 t3:=Tryz.underlying3
 a3:=Tryz.isAgg3
 z3:=Tryz.sizeOf3
 v3:=Tryz.zeroValue3
 t4:=Tryz.underlying4
 a4:=Tryz.isAgg4
 z4:=Tryz.sizeOf4
 v4:=Tryz.zeroValue4
 t5:=Tryz.underlying5
 a5:=Tryz.isAgg5
 z5:=Tryz.sizeOf5
 v5:=Tryz.zeroValue5
 t9:=Tryz.underlying9
 a9:=Tryz.isAgg9
 z9:=Tryz.sizeOf9
 v9:=Tryz.zeroValue9
 t46:=Tryz.underlying147
 a46:=Tryz.isAgg147
 z46:=Tryz.sizeOf147
 v46:=Tryz.zeroValue147
 t51:=Tryz.underlying161
 a51:=Tryz.isAgg161
 z51:=Tryz.sizeOf161
 v51:=Tryz.zeroValue161
 t146:=Tryz.underlying162
 a146:=Tryz.isAgg162
 z146:=Tryz.sizeOf162
 v146:=Tryz.zeroValue162
 g1:=by kernel_rfl }
open Go.RowKit Go.Lib in
theorem Tryz.strings_Contains_one (s:ByteArray)(c:UInt8)(w:World) :
  Calls Tryz.prog 171 #[.string s,.string ⟨#[c]⟩] w fun e w' => e = .returned (.bool (decide (0≤Lib.indexByte s.data.toList c)))∧w' = w:=Any.strings_Contains_one Tryz.lays144 s c w
def Tryz.lays145_ren:Go.Shelf.Ren:=⟨fun|145=>73|220=>104|219=>112|217=>110|225=>132|224=>133|267=>134|266=>130|314=>151|n=>n,fun|9=>9|4=>4|59=>111|3=>3|5=>5|46=>147|146=>162|51=>161|n=>n,fun|1=>0|n=>n⟩
theorem Tryz.lays145:Go.Proofs.Lays.n145 Tryz.prog Tryz.lays145_ren:={
 mixed:=by kernel_rfl
 f145:=Tryz.func73.trans (congrArg some (by kernel_rfl))
 f217:=Tryz.func110.trans (congrArg some (by kernel_rfl))
 f219:=Tryz.func112.trans (congrArg some (by kernel_rfl))
 f220:=Tryz.func104.trans (congrArg some (by kernel_rfl))
 f224:=Tryz.func133.trans (congrArg some (by kernel_rfl))
 f225:=Tryz.func132.trans (congrArg some (by kernel_rfl))
 f266:=Tryz.func130.trans (congrArg some (by kernel_rfl))
 f267:=Tryz.func134.trans (congrArg some (by kernel_rfl))
 f314:=Tryz.func151.trans (congrArg some (by kernel_rfl))
 t3:=Tryz.underlying3
 a3:=Tryz.isAgg3
 z3:=Tryz.sizeOf3
 v3:=Tryz.zeroValue3
 t4:=Tryz.underlying4
 a4:=Tryz.isAgg4
 z4:=Tryz.sizeOf4
 v4:=Tryz.zeroValue4
 t5:=Tryz.underlying5
 a5:=Tryz.isAgg5
 z5:=Tryz.sizeOf5
 v5:=Tryz.zeroValue5
 t9:=Tryz.underlying9
 a9:=Tryz.isAgg9
 z9:=Tryz.sizeOf9
 v9:=Tryz.zeroValue9
 t46:=Tryz.underlying147
 a46:=Tryz.isAgg147
 z46:=Tryz.sizeOf147
 v46:=Tryz.zeroValue147
 t51:=Tryz.underlying161
 a51:=Tryz.isAgg161
 z51:=Tryz.sizeOf161
 v51:=Tryz.zeroValue161
 t59:=Tryz.underlying111
 a59:=Tryz.isAgg111
 z59:=Tryz.sizeOf111
 v59:=Tryz.zeroValue111
 t146:=Tryz.underlying162
 a146:=Tryz.isAgg162
 z146:=Tryz.sizeOf162
 v146:=Tryz.zeroValue162
 g1:=by kernel_rfl }
open Go.RowKit Go.Lib in
theorem Tryz.strings_Cut (s sep:ByteArray)(m:Int)(w:World)(hs:s.size<4294967281)(hm:w.cell? ⟨0,0,none⟩=some (I O m)) :
  Calls Tryz.prog 73 #[.string s,.string sep] w fun e w' => e = .returned (.tuple #[.string ⟨(Lib.cut s.data.toList sep.data.toList).1.toArray⟩,.string ⟨(Lib.cut s.data.toList sep.data.toList).2.1.toArray⟩,.bool (Lib.cut s.data.toList sep.data.toList).2.2])∧∃n,w' = w.drewN n:=Any.strings_Cut Tryz.lays145 s sep m w hs hm
def Tryz.lays138_ren:Go.Shelf.Ren:=⟨fun|138=>47|195=>85|218=>86|143=>87|219=>112|217=>110|225=>132|224=>133|267=>134|266=>130|314=>151|n=>n,fun|9=>9|3=>3|4=>4|5=>5|0=>0|46=>147|146=>162|51=>161|n=>n,fun|1=>0|n=>n⟩
theorem Tryz.lays138:Go.Proofs.Lays.n138 Tryz.prog Tryz.lays138_ren:={
 mixed:=by kernel_rfl
 f138:=Tryz.func47.trans (congrArg some (by kernel_rfl))
 f143:=Tryz.func87.trans (congrArg some (by kernel_rfl))
 f195:=Tryz.func85.trans (congrArg some (by kernel_rfl))
 f217:=Tryz.func110.trans (congrArg some (by kernel_rfl))
 f218:=Tryz.func86.trans (congrArg some (by kernel_rfl))
 f219:=Tryz.func112.trans (congrArg some (by kernel_rfl))
 f224:=Tryz.func133.trans (congrArg some (by kernel_rfl))
 f225:=Tryz.func132.trans (congrArg some (by kernel_rfl))
 f266:=Tryz.func130.trans (congrArg some (by kernel_rfl))
 f267:=Tryz.func134.trans (congrArg some (by kernel_rfl))
 f314:=Tryz.func151.trans (congrArg some (by kernel_rfl))
 t0:=Tryz.underlying0
 a0:=Tryz.isAgg0
 z0:=Tryz.sizeOf0
 v0:=Tryz.zeroValue0
 t3:=Tryz.underlying3
 a3:=Tryz.isAgg3
 z3:=Tryz.sizeOf3
 v3:=Tryz.zeroValue3
 t4:=Tryz.underlying4
 a4:=Tryz.isAgg4
 z4:=Tryz.sizeOf4
 v4:=Tryz.zeroValue4
 t5:=Tryz.underlying5
 a5:=Tryz.isAgg5
 z5:=Tryz.sizeOf5
 v5:=Tryz.zeroValue5
 t9:=Tryz.underlying9
 a9:=Tryz.isAgg9
 z9:=Tryz.sizeOf9
 v9:=Tryz.zeroValue9
 t46:=Tryz.underlying147
 a46:=Tryz.isAgg147
 z46:=Tryz.sizeOf147
 v46:=Tryz.zeroValue147
 t51:=Tryz.underlying161
 a51:=Tryz.isAgg161
 z51:=Tryz.sizeOf161
 v51:=Tryz.zeroValue161
 t146:=Tryz.underlying162
 a146:=Tryz.isAgg162
 z146:=Tryz.sizeOf162
 v146:=Tryz.zeroValue162
 g1:=by kernel_rfl }
open Go.RowKit Go.Lib in
theorem Tryz.strings_Count_one (s:ByteArray)(c:UInt8)(w:World) :
  Calls Tryz.prog 47 #[.string s,.string ⟨#[c]⟩] w fun e w' => e = .returned (I O (Lib.countByte s.data.toList c))∧w' = w:=Any.strings_Count_one Tryz.lays138 s c w
def Tryz.laysGw17_ren:Go.Shelf.Ren:=⟨fun|17=>69|15=>102|20=>123|n=>n,fun|9=>9|23=>107|4=>4|3=>3|0=>0|21=>21|n=>n,fun|n=>n⟩
theorem Tryz.laysGw17:Go.Proofs.LaysGw.n17 Tryz.prog Tryz.laysGw17_ren:={
 mixed:=by kernel_rfl
 f15:=Tryz.func102.trans (congrArg some (by kernel_rfl))
 f17:=Tryz.func69.trans (congrArg some (by kernel_rfl))
 f20:=Tryz.func123.trans (congrArg some (by kernel_rfl))
 t0:=Tryz.underlying0
 a0:=Tryz.isAgg0
 z0:=Tryz.sizeOf0
 v0:=Tryz.zeroValue0
 i0:=by kernel_rfl
 t3:=Tryz.underlying3
 a3:=Tryz.isAgg3
 z3:=Tryz.sizeOf3
 v3:=Tryz.zeroValue3
 i3:=by kernel_rfl
 t4:=Tryz.underlying4
 a4:=Tryz.isAgg4
 z4:=Tryz.sizeOf4
 v4:=Tryz.zeroValue4
 i4:=by kernel_rfl
 t9:=Tryz.underlying9
 a9:=Tryz.isAgg9
 z9:=Tryz.sizeOf9
 v9:=Tryz.zeroValue9
 i9:=by kernel_rfl
 t21:=Tryz.underlying21
 a21:=Tryz.isAgg21
 z21:=Tryz.sizeOf21
 v21:=Tryz.zeroValue21
 i21:=by kernel_rfl
 t23:=Tryz.underlying107
 a23:=Tryz.isAgg107
 z23:=Tryz.sizeOf107
 v23:=Tryz.zeroValue107
 i23:=by kernel_rfl }
open Go.RowKit Go.Lib in
theorem Tryz.strings_ContainsFunc_runes (g:Nat)(lb:Array Value)(eg:∀args w,(callFunc g args).run Tryz.prog w = .ok (.enter g args) w)(p:Nat→Bool)(s:ByteArray)(w:World)(hp:PredAtRunes Tryz.prog g lb p w) :
  Calls Tryz.prog 69 #[.string s,.func (.func g) #[] lb] w fun e w' => e = .returned (.bool (decide (0≤Lib.idxFunc p true s)))∧Below w.heap.size w w' := Any.strings_ContainsFunc_runes Tryz.laysGw17 g lb eg p s w hp
def Tryz.lays100_ren:Go.Shelf.Ren:=⟨fun|100=>68|207=>101|n=>n,fun|9=>9|4=>4|3=>3|n=>n,fun|n=>n⟩
theorem Tryz.lays100:Go.Proofs.Lays.n100 Tryz.prog Tryz.lays100_ren:={
 mixed:=by kernel_rfl
 f100:=Tryz.func68.trans (congrArg some (by kernel_rfl))
 f207:=Tryz.func101.trans (congrArg some (by kernel_rfl))
 t3:=Tryz.underlying3
 a3:=Tryz.isAgg3
 z3:=Tryz.sizeOf3
 v3:=Tryz.zeroValue3
 t4:=Tryz.underlying4
 a4:=Tryz.isAgg4
 z4:=Tryz.sizeOf4
 v4:=Tryz.zeroValue4
 t9:=Tryz.underlying9
 a9:=Tryz.isAgg9
 z9:=Tryz.sizeOf9
 v9:=Tryz.zeroValue9 }
open Go.RowKit Go.Lib in
theorem Tryz.strings_HasSuffix (s p:ByteArray)(w:World)(hs:s.size≤9223372036854775807) :
  Calls Tryz.prog 68 #[.string s,.string p] w fun e w' => e = .returned (.bool (Lib.hasSuffix s.data.toList p.data.toList))∧w' = w:=Any.strings_HasSuffix Tryz.lays100 s p w hs
def Tryz.lays102_ren:Go.Shelf.Ren:=⟨fun|102=>74|209=>105|207=>101|n=>n,fun|9=>9|4=>4|3=>3|n=>n,fun|n=>n⟩
theorem Tryz.lays102:Go.Proofs.Lays.n102 Tryz.prog Tryz.lays102_ren:={
 mixed:=by kernel_rfl
 f102:=Tryz.func74.trans (congrArg some (by kernel_rfl))
 f207:=Tryz.func101.trans (congrArg some (by kernel_rfl))
 f209:=Tryz.func105.trans (congrArg some (by kernel_rfl))
 t3:=Tryz.underlying3
 a3:=Tryz.isAgg3
 z3:=Tryz.sizeOf3
 v3:=Tryz.zeroValue3
 t4:=Tryz.underlying4
 a4:=Tryz.isAgg4
 z4:=Tryz.sizeOf4
 v4:=Tryz.zeroValue4
 t9:=Tryz.underlying9
 a9:=Tryz.isAgg9
 z9:=Tryz.sizeOf9
 v9:=Tryz.zeroValue9 }
open Go.RowKit Go.Lib in
theorem Tryz.strings_TrimSuffix (s p:ByteArray)(w:World)(hs:s.size≤9223372036854775807) :
  Calls Tryz.prog 74 #[.string s,.string p] w fun e w' => e = .returned (.string ⟨(Lib.trimSuffix s.data.toList p.data.toList).toArray⟩)∧w' = w:=Any.strings_TrimSuffix Tryz.lays102 s p w hs
def Tryz.lays146_ren:Go.Shelf.Ren:=⟨fun|146=>76|221=>106|268=>124|138=>47|143=>87|195=>85|197=>140|218=>86|219=>112|260=>159|217=>110|225=>132|224=>133|267=>134|266=>130|314=>151|n=>n,fun|9=>9|31=>48|3=>3|4=>4|0=>0|105=>152|21=>21|5=>5|46=>147|119=>181|139=>184|138=>183|146=>162|51=>161|n=>n,fun|1=>0|3=>4|4=>5|n=>n⟩
theorem Tryz.lays146:Go.Proofs.Lays.n146 Tryz.prog Tryz.lays146_ren:={
 mixed:=by kernel_rfl
 f138:=Tryz.func47.trans (congrArg some (by kernel_rfl))
 f143:=Tryz.func87.trans (congrArg some (by kernel_rfl))
 f146:=Tryz.func76.trans (congrArg some (by kernel_rfl))
 f195:=Tryz.func85.trans (congrArg some (by kernel_rfl))
 f197:=Tryz.func140.trans (congrArg some (by kernel_rfl))
 f217:=Tryz.func110.trans (congrArg some (by kernel_rfl))
 f218:=Tryz.func86.trans (congrArg some (by kernel_rfl))
 f219:=Tryz.func112.trans (congrArg some (by kernel_rfl))
 f221:=Tryz.func106.trans (congrArg some (by kernel_rfl))
 f224:=Tryz.func133.trans (congrArg some (by kernel_rfl))
 f225:=Tryz.func132.trans (congrArg some (by kernel_rfl))
 f260:=Tryz.func159.trans (congrArg some (by kernel_rfl))
 f266:=Tryz.func130.trans (congrArg some (by kernel_rfl))
 f267:=Tryz.func134.trans (congrArg some (by kernel_rfl))
 f268:=Tryz.func124.trans (congrArg some (by kernel_rfl))
 f314:=Tryz.func151.trans (congrArg some (by kernel_rfl))
 t0:=Tryz.underlying0
 a0:=Tryz.isAgg0
 z0:=Tryz.sizeOf0
 v0:=Tryz.zeroValue0
 t3:=Tryz.underlying3
 a3:=Tryz.isAgg3
 z3:=Tryz.sizeOf3
 v3:=Tryz.zeroValue3
 t4:=Tryz.underlying4
 a4:=Tryz.isAgg4
 z4:=Tryz.sizeOf4
 v4:=Tryz.zeroValue4
 t5:=Tryz.underlying5
 a5:=Tryz.isAgg5
 z5:=Tryz.sizeOf5
 v5:=Tryz.zeroValue5
 t9:=Tryz.underlying9
 a9:=Tryz.isAgg9
 z9:=Tryz.sizeOf9
 v9:=Tryz.zeroValue9
 t21:=Tryz.underlying21
 a21:=Tryz.isAgg21
 z21:=Tryz.sizeOf21
 v21:=Tryz.zeroValue21
 t31:=Tryz.underlying48
 a31:=Tryz.isAgg48
 z31:=Tryz.sizeOf48
 v31:=Tryz.zeroValue48
 t46:=Tryz.underlying147
 a46:=Tryz.isAgg147
 z46:=Tryz.sizeOf147
 v46:=Tryz.zeroValue147
 t51:=Tryz.underlying161
 a51:=Tryz.isAgg161
 z51:=Tryz.sizeOf161
 v51:=Tryz.zeroValue161
 t105:=Tryz.underlying152
 a105:=Tryz.isAgg152
 z105:=Tryz.sizeOf152
 v105:=Tryz.zeroValue152
 t119:=Tryz.underlying181
 a119:=Tryz.isAgg181
 z119:=Tryz.sizeOf181
 t138:=Tryz.underlying183
 a138:=Tryz.isAgg183
 z138:=Tryz.sizeOf183
 v138:=Tryz.zeroValue183
 t139:=Tryz.underlying184
 a139:=Tryz.isAgg184
 z139:=Tryz.sizeOf184
 v139:=Tryz.zeroValue184
 t146:=Tryz.underlying162
 a146:=Tryz.isAgg162
 z146:=Tryz.sizeOf162
 v146:=Tryz.zeroValue162
 g1:=by kernel_rfl
 g3:=by kernel_rfl
 g4:=by kernel_rfl }
open Go.RowKit Go.Lib in
theorem Tryz.strings_Split (s sep:ByteArray)(m:Int)(w:World)(hs:s.size<4294967281)(hm:w.cell? ⟨0,0,none⟩=some (I O m))(h1:1≤sep.size) :
  Calls Tryz.prog 76 #[.string s,.string sep] w fun e w' =>
   e = .returned (.slice (some ⟨w.heap.size,0,none⟩) (Lib.countB s sep+1) (Lib.countB s sep+1))∧w' = w.alloc (.cells ((Lib.splitB sep 0 (Lib.countB s sep) s).map Value.string).toArray 9):=Any.strings_Split Tryz.lays146 (by kernel_rfl) s sep m w hs hm h1
def Tryz.laysSlH10_f75_ren:Go.Shelf.Ren:=⟨fun|10=>75|6=>95|n=>n,fun|22=>48|23=>9|25=>86|3=>3|4=>4|0=>0|n=>n,fun|n=>n⟩
theorem Tryz.laysSlH10_f75:Go.Proofs.SlLaysH.n10 Tryz.prog Tryz.laysSlH10_f75_ren:={
 mixed:=by kernel_rfl
 f6:=⟨Tryz.f95.name,by decide,Tryz.func95.trans (congrArg some (by kernel_rfl))⟩
 f10:=⟨Tryz.f75.name,by decide,Tryz.func75.trans (congrArg some (by kernel_rfl))⟩
 t0:=Tryz.underlying0
 a0:=Tryz.isAgg0
 z0:=Tryz.sizeOf0
 v0:=Tryz.zeroValue0
 t3:=Tryz.underlying3
 a3:=Tryz.isAgg3
 z3:=Tryz.sizeOf3
 v3:=Tryz.zeroValue3
 t4:=Tryz.underlying4
 a4:=Tryz.isAgg4
 z4:=Tryz.sizeOf4
 v4:=Tryz.zeroValue4
 t22:=Tryz.underlying48
 a22:=Tryz.isAgg48
 z22:=Tryz.sizeOf48
 v22:=Tryz.zeroValue48
 a23:=Tryz.isAgg9
 z23:=Tryz.sizeOf9
 t25:=Tryz.underlying86
 a25:=Tryz.isAgg86
 z25:=Tryz.sizeOf86
 v25:=Tryz.zeroValue86 }
open Go.RowKit Go.Lib Go.Sort in
theorem Tryz.slices_DeleteFunc {α:Type} [Inhabited α] (enc:α→Value) (hO:OneCell enc) (p:α→Bool) (g:Nat) (lb:Array Value) (eg:∀args w,(callFunc g args).run Tryz.prog w = .ok (.enter g args) w) (zr:α) (v23:∀w,(zeroValue 9).run Tryz.prog w = .ok (enc zr) w) (blk off cap:Nat) (d:Array α) (w:World) (hp:PredAt Tryz.prog g lb enc p w) (hpo:PredOver Tryz.prog g lb enc p blk off d.size w) (hH:Holds enc w blk off d) (hsz:d.size≤9223372036854775807) (hcap:d.size≤cap) :
  Calls Tryz.prog 75 #[.slice (some ⟨blk,off,none⟩) d.size cap,.func (.func g) #[] lb] w fun e w' => e = .returned (.slice (some ⟨blk,off,none⟩) (d.toList.filter fun x => !p x).length cap)∧∃q,w' = putRow enc (Sort.ahead w q) blk off ((d.toList.filter fun x => !p x)++List.replicate (d.size - (d.toList.filter fun x => !p x).length) zr).toArray:=AnyE.slices_DeleteFunc Tryz.laysSlH10_f75 enc hO p g lb eg zr v23 blk off cap d w hp hpo hH hsz hcap
end Go.Proofs
namespace Go.Proofs.YtbcmabolkkfgfaaGreatDoor
open Go.RowKit
theorem sneq {a b:ByteArray}(h:a.data.toList≠b.data.toList):(a.toList==b.toList)=false:=by
 rw[ByteArray.toList_eq,ByteArray.toList_eq]
 simpa using h
theorem grow_below (w:World)(k:Nat)(os:Array Obj):Below w.heap.size w (Go.Sort.grow (w.drewN k) os) :=
 ⟨rfl,rfl,rfl,by show w.heap.size≤(w.heap++os).size;rw[Array.size_append];omega,fun i hi=>by
  show(w.heap++os)[i]?=_
  rw[Array.getElem?_append,if_pos hi]⟩
theorem bytesWorld_below (w:World)(T:TypeId)(t:ByteArray):Below w.heap.size w (Lib.bytesWorld w T t) :=
 ⟨rfl,rfl,rfl,by rw[Lib.bytesWorld_size];omega,fun j hj=>Lib.bytesWorld_at_old w T t j hj⟩
def DecGive (n:Int) (w:World) (e:Ending) (w' : World):Prop:=e = .returned (.string ⟨(Lib.itoa n).toArray⟩)∧Below w.heap.size w w'
theorem itoa_any (n:Int)(w:World)(hE:Env w)(h0 : -9223372036854775808≤n)(h1:n≤9223372036854775807):Calls Tryz.prog 93 #[I O n] w (DecGive n w) :=
 (Tryz.strconv_Itoa n h0 h1 w hE.pow).mono fun _ _ ⟨he,k,os,hw⟩=>⟨he,hw▸grow_below w k os⟩
theorem decimal_any (n:Int)(w:World)(hE:Env w)(h0 : -9223372036854775808≤n)(h1:n≤9223372036854775807):Calls Tryz.prog 55 #[I O n] w (DecGive n w):=by
 have HI:=mh (itoa_any n w hE h0 h1);clear hE
 go_enter Tryz.func55,Tryz.ntmps55
 go_wp2_with (first|(go_at_call 93;refine cmo HI.out ?_;rintro e w1 ⟨rfl,hb⟩))
 go_ret
 exact⟨rfl,hb⟩
theorem ret_vb {a b:Int}{c d:Bool}(h:a=b)(k:c=d):Ending.returned (.tuple #[I O a,.bool c]) = .returned (.tuple #[I O b,.bool d]):=by rw[h,k]
def NumGive (l:List UInt8) (least most:Int) (w:World) (e:Ending) (w' : World):Prop:=e = .returned (.tuple #[I O (Wo.numV l least most),.bool (Wo.numB l least most)])∧Below w.heap.size w w'
theorem num_none {l:List UInt8}(h:Wo.numO l=none)(a b:Int):Wo.numV l a b=0∧Wo.numB l a b=false:=by unfold Wo.numV Wo.numB;rw[h];exact⟨rfl,rfl⟩
theorem num_out {l:List UInt8}{v:Int}(h:Wo.numO l=some v){a b:Int}(ho:v<a∨b<v):Wo.numV l a b=0∧Wo.numB l a b=false:=by unfold Wo.numV Wo.numB;rw[h];simp only[if_pos ho];exact⟨trivial,trivial⟩
theorem num_in {l:List UInt8}{v:Int}(h:Wo.numO l=some v){a b:Int}(ho:¬(v<a∨b<v)):Wo.numV l a b=v∧Wo.numB l a b=true:=by unfold Wo.numV Wo.numB;rw[h];simp only[if_neg ho];exact⟨trivial,trivial⟩
theorem number_any (s:ByteArray)(least most:Int)(w:World)(hE:Env w)(hs:s.size≤281474976710656) :
  Calls Tryz.prog 78 #[.string s,I O least,I O most] w (NumGive s.data.toList least most w):=by
 obtain⟨t1,p1,h1⟩:=hE.syn;obtain⟨t2,p2,h2⟩:=hE.rng;have HE:=mh hE
 cases ha:Lib.atoiAll s.data.toList with
 | range =>
   obtain⟨e1,e2⟩:=num_none (show Wo.numO s.data.toList=none by unfold Wo.numO;rw[ha]) least most;have HN:=mh (And.intro e1 e2);have HA:=mh (Tryz.strconv_Atoi_range_var s hs ha t2 p2 w h2);clear ha h1 h2 hE e1 e2;generalize Lib.atoiSat s.data.toList=sat at *
   go_enter Tryz.func78,Tryz.ntmps78
   go_wp2_with (first|(go_at_call 107;refine cmo HA.out ?_;rintro e w1 ⟨N,rfl, -, -,hb⟩))
   go_ret2
   exact⟨ret_vb HN.out.1.symm HN.out.2.symm,hb⟩
 | ok v =>
   obtain⟨v0,v1⟩:=Lib.atoiAll_bounds ha;have HA:=mh (Tryz.strconv_Atoi_ok s (by omega) v ha w);have HI:=mh (fun (W:World) (h:Env W)=>itoa_any v W h v0 v1)
   by_cases hs' : Lib.itoa v=s.data.toList
   ·have hn:Wo.numO s.data.toList=some v:=by unfold Wo.numO;rw[ha];simp only[if_pos hs']
    have es:(⟨(Lib.itoa v).toArray⟩:ByteArray)=s:=by rw[hs']
    have ES:=mh es
    by_cases ho:v<least∨most<v
    ·obtain⟨e1,e2⟩:=num_out hn ho
     have HN:=mh (And.intro e1 e2);clear ha h1 h2 hE e1 e2 hn es hs'
     rcases ho with ho|ho
     all_goals
      go_enter Tryz.func78,Tryz.ntmps78
      go_wp2_with (first|(go_at_call 107;refine cmo HA.out ?_;rintro e w1 ⟨rfl,hw1⟩;have hb:Below w.heap.size w w1:=(by rcases hw1 with rfl|⟨t,rfl⟩;(· exact brf _ _);exact bytesWorld_below _ _ _);clear hw1)|(go_at_call 93;refine cmo (HI.out _ (HE.out.below hb)) ?_;rintro e w2 ⟨rfl,hb2⟩;rw[ES.out]))
      all_goals
       go_ret2
       exact⟨ret_vb HN.out.1.symm HN.out.2.symm,(hb.trans (hb2.mono hb.size))⟩
    ·obtain⟨e1,e2⟩:=num_in hn ho
     have HN:=mh (And.intro e1 e2);have ho1:¬v<least:=fun h=>ho (.inl h)
     have ho2:¬most<v:=fun h=>ho (.inr h)
     clear ha h1 h2 hE e1 e2 hn es hs' ho
     go_enter Tryz.func78,Tryz.ntmps78
     go_wp2_with (first|(go_at_call 107;refine cmo HA.out ?_;rintro e w1 ⟨rfl,hw1⟩;have hb:Below w.heap.size w w1:=(by rcases hw1 with rfl|⟨t,rfl⟩;(· exact brf _ _);exact bytesWorld_below _ _ _);clear hw1)|(go_at_call 93;refine cmo (HI.out _ (HE.out.below hb)) ?_;rintro e w2 ⟨rfl,hb2⟩;rw[ES.out]))
     go_ret2
     exact⟨ret_vb HN.out.1.symm HN.out.2.symm,(hb.trans (hb2.mono hb.size))⟩
   ·have hn:Wo.numO s.data.toList=none:=by unfold Wo.numO;rw[ha];simp only[if_neg hs']
    obtain⟨e1,e2⟩:=num_none hn least most;have HN:=mh (And.intro e1 e2);have es:((⟨(Lib.itoa v).toArray⟩:ByteArray).toList==s.toList)=false:=sneq (by exact hs');clear ha h1 h2 hE e1 e2 hn hs'; obtain⟨sv,esv⟩:∃x:ByteArray,(⟨(Lib.itoa v).toArray⟩:ByteArray)=x:=⟨_,rfl⟩;rw[esv]at es;have ES:=mh esv;clear esv
    go_enter Tryz.func78,Tryz.ntmps78
    go_wp2_with (first|(go_at_call 107;refine cmo HA.out ?_;rintro e w1 ⟨rfl,hw1⟩;have hb:Below w.heap.size w w1:=(by rcases hw1 with rfl|⟨t,rfl⟩;(· exact brf _ _);exact bytesWorld_below _ _ _);clear hw1)|(go_at_call 93;refine cmo (HI.out _ (HE.out.below hb)) ?_;rintro e w2 ⟨rfl,hb2⟩;rw[ES.out]))
    go_ret2
    exact⟨ret_vb HN.out.1.symm HN.out.2.symm,(hb.trans (hb2.mono hb.size))⟩
 | _ =>
   obtain⟨e1,e2⟩:=num_none (show Wo.numO s.data.toList=none by unfold Wo.numO;rw[ha]) least most;have HN:=mh (And.intro e1 e2);have HA:=mh (Tryz.strconv_Atoi_bad_var s hs (fun v e=>by rw[ha]at e;cases e) (fun e=>by rw[ha]at e;cases e) t1 p1 w h1);clear ha h1 h2 hE e1 e2
   go_enter Tryz.func78,Tryz.ntmps78
   go_wp2_with (first|(go_at_call 107;refine cmo HA.out ?_;rintro e w1 ⟨N,rfl, -, -,hb⟩))
   go_ret2
   exact⟨ret_vb HN.out.1.symm HN.out.2.symm,hb⟩
theorem ret_str {a b:ByteArray}(h:a=b):Ending.returned (.string a) = .returned (.string b):=by rw[h]
theorem itoa_small {n:Int}(h0:0≤n)(h:n<10):Lib.itoa n = [Wo.dch (n.toNat)]:=by
 unfold Lib.itoa;rw[if_neg (by omega),Lib.decDigits,dif_pos (by omega)]
 rfl
theorem conv1 (W:World)(b d:Nat)(hd:d<10)(h:W.cell? ⟨b,0,none⟩=some (.int .u8 (48+(d:Int)))):(convert 47 9 (.slice (some ⟨b,0,none⟩) 1 1)).run Tryz.prog W = .ok (.string ⟨#[Wo.dch (d)]⟩) W:=by
 have e:(Wo.dch d).toNat=48+d:=Wo.dig_toNat d hd
 have:=run_convert_bytes_back (P:=Tryz.prog) W 47 9 5 ⟨b,0,none⟩ 1 [Wo.dch (d)] Tryz.underlying47 Tryz.underlying5 Tryz.underlying9 (fun j hj=>by
  match j,hj with
  | 0,_ =>
    show W.cell? ⟨b,0,none⟩=some (.int .u8 (((Wo.dch (d)).toNat:Nat):Int))
    rw[h,e];simp)
 exact this
theorem app1 (l:List UInt8)(c:UInt8):(⟨l.toArray⟩:ByteArray)++⟨#[c]⟩=⟨(l ++ [c]).toArray⟩:=by rw[ByteArray.mk_append_mk]
theorem itoa_big {n:Int}(h:10≤n):Lib.itoa n=Lib.itoa (n / 10) ++ [Wo.dch ((n % 10).toNat)]:=by
 unfold Lib.itoa;rw[if_neg (by omega),if_neg (by omega),Lib.decDigits,dif_neg (by omega)];have e1:n.toNat / 10=(n / 10).toNat:=by omega
 have e2:n.toNat % 10=(n % 10).toNat:=by omega
 rw[e1,e2]
 rfl
theorem itoa_neg1 {u:Nat}(h0:0<u)(h:u<10):Lib.itoa (-(u:Int)) = [45,Wo.dch u]:=by
 unfold Lib.itoa;rw[if_pos (by omega),show(-(u:Int)).natAbs=u by omega,Lib.decDigits,dif_pos h]
 rfl
theorem itoa_neg2 {u:Nat}(h:10≤u):Lib.itoa (-(u:Int))=Lib.itoa (-((u / 10:Nat):Int)) ++ [Wo.dch (u % 10)]:=by
 unfold Lib.itoa;rw[if_pos (by omega),if_pos (by omega),show(-(u:Int)).natAbs=u by omega,show(-((u / 10:Nat):Int)).natAbs=u / 10 by omega,Lib.decDigits,dif_neg (by omega)]
 rfl
theorem refdecimal_any (N:Nat):∀(n:Int) (w:World),n.natAbs<N → -9223372036854775808≤n→n≤9223372036854775807→Calls Tryz.prog 24 #[I O n] w (DecGive n w):=by
 induction N with
 | zero=>intro n w h;omega
 | succ N ih =>
   intro n w h h0 h1
   by_cases hn:n<0
   ·by_cases h10 : -10<n
    ·obtain⟨d,rfl⟩:∃d:Nat,n = -(d:Int):=⟨n.natAbs,by omega⟩
     have HS:=mh (itoa_neg1 (u:=d) (by omega) (by omega));have hb:IntKind.u8.wrap (48+(d:Int))=48+d:=by rw[IntWalk.u8_in];omega
     have hq2:(-(d:Int)).tmod 10 = -(d:Int):=by rw[Int.neg_tmod,Int.tmod_eq_emod_of_nonneg (by omega)];omega
     have CV:=conv1 (w.alloc (Obj.cells #[.int .u8 (48+(d:Int))] 5)) w.heap.size d (by omega) (by go_simp);clear ih h h0 h1
     go_enter Tryz.func24,Tryz.ntmps24
     go_wp2
     go_ret
     exact⟨ret_str (by rw[HS.out];rfl),(brf _ _).alloc mle _⟩
    ·obtain⟨q,m,rfl,hm10⟩:∃q m:Nat,n = -((10*q+m:Nat):Int)∧m<10:=⟨n.natAbs / 10,n.natAbs % 10,by omega,by omega⟩
     have hd:Lib.itoa (-((10*q+m:Nat):Int))=Lib.itoa (-(q:Int)) ++ [Wo.dch m]:=by
      rw[itoa_neg2 (by omega),show(10*q+m) / 10=q by omega,show(10*q+m) % 10=m by omega]
     have HI:=mh (fun (W:World)=>ih (-(q:Int)) W (by omega) (by omega) (by omega));obtain⟨sq,esq⟩:∃x:ByteArray,(⟨(Lib.itoa (-(q:Int))).toArray⟩:ByteArray)=x:=⟨_,rfl⟩;have hsz:sq.size+1≤9223372036854775807:=by
      have:=(Wo.itoa_len20 (-(q:Int)) (by omega) (by omega)).2;rw[← esq];show(Lib.itoa (-(q:Int))).toArray.size+1≤_;simp;omega
     have ES:=mh esq;clear esq;have HF:=mh (show sq++⟨#[Wo.dch m]⟩=⟨(Lib.itoa (-((10*q+m:Nat):Int))).toArray⟩ by rw[hd,← ES.out,app1]);have hq1:(-((10*q+m:Nat):Int)).tdiv 10 = -(q:Int):=by rw[Int.neg_tdiv,Int.tdiv_eq_ediv_of_nonneg (by omega)];omega
     have hq2:(-((10*q+m:Nat):Int)).tmod 10 = -(m:Int):=by rw[Int.neg_tmod,Int.tmod_eq_emod_of_nonneg (by omega)];omega
     have hq0:(0:Int)≤q:=by omega
     obtain⟨n,en⟩:∃n:Int, -((10*q+m:Nat):Int)=n:=⟨_,rfl⟩;have hb:IntKind.u8.wrap (48+(m:Int))=48+m:=by rw[IntWalk.u8_in];omega
     have hb2:IntKind.i64.wrap (48+(m:Int))=48+m:=IntWalk.i64_in _ ⟨by omega,by omega⟩;have hb3:IntKind.i64.wrap (-(q:Int)) = -(q:Int):=IntWalk.i64_in _ ⟨by omega,by omega⟩;have hb4:IntKind.i64.wrap (m:Int)=m:=IntWalk.i64_in _ ⟨by omega,by omega⟩;have hn' : n<0:=by omega
     have h10' : ¬ -10<n:=by omega
     have CA:=conv1 ((w.alloc (Obj.cells #[.int .u8 (48+(m:Int))] 5)).drew) w.heap.size m hm10 (by go_simp);have CH:((w.alloc (Obj.cells #[.int .u8 (48+(m:Int))] 5)).drew).cell? ⟨w.heap.size,0,none⟩=some (.int .u8 (48+(m:Int))):=by go_simp
     have HC:=mh CH;clear CH;rw[en]at hd hq1 hq2 h0 h1;rw[en]at HF;rw[en];clear hd ih h en hn h10 h0 h1
     go_enter Tryz.func24,Tryz.ntmps24
     go_wp2_with fail
     go_region_with (first|(go_at_call 24;(with_reducible refine cmo (HI.out w.drew) ?_);rintro e w1 ⟨rfl,hb1⟩;rw[ES.out];have CW:=conv1 (w1.alloc (Obj.cells #[.int .u8 (48+(m:Int))] 5)) w1.heap.size m hm10 (by go_simp))|(go_at_call 24;(with_reducible refine cmo (HI.out ((w.alloc (Obj.cells #[.int .u8 (48+(m:Int))] 5)).drew)) ?_);rintro e w1 ⟨rfl,hb1⟩;rw[ES.out];have CW:=conv1 w1 w.heap.size m hm10 ((hb1.cell (p:=⟨w.heap.size,0,none⟩) (by simp)).trans HC.out)))
     all_goals
      go_wp2
      go_ret
      refine⟨ret_str HF.out,?_⟩
      first
       | exact((brf _ w).drew.trans (hb1.mono mle)).alloc (by have:=hb1.size;simpa using this) _
       | exact(((brf _ w).alloc mle _).drew).trans (hb1.mono (by simp))
   ·by_cases h10:n<10
    ·obtain⟨d,rfl⟩:∃d:Nat,n=d:=⟨n.toNat,by omega⟩
     have HS:=mh (itoa_small (n:=d) (by omega) h10);have hb:IntKind.u8.wrap (48+(d:Int))=48+d:=by rw[IntWalk.u8_in];omega
     have CV:=conv1 (w.alloc (Obj.cells #[.int .u8 (48+(d:Int))] 5)) w.heap.size d (by omega) (by go_simp);clear ih h h0 h1
     go_enter Tryz.func24,Tryz.ntmps24
     go_wp2
     go_ret
     exact⟨ret_str (by rw[HS.out];rfl),(brf _ _).alloc mle _⟩
    ·obtain⟨q,m,rfl,hm10⟩:∃q m:Nat,n=10*(q:Int)+m∧m<10:=⟨(n / 10).toNat,(n % 10).toNat,by omega,by omega⟩
     have hd:Lib.itoa (10*(q:Int)+m)=Lib.itoa q ++ [Wo.dch m]:=by
      rw[itoa_big (by omega),show(10*(q:Int)+m) / 10=q by omega,show((10*(q:Int)+m) % 10).toNat=m by omega]
     have HI:=mh (fun (W:World)=>ih (q:Int) W (by omega) (by omega) (by omega));obtain⟨sq,esq⟩:∃x:ByteArray,(⟨(Lib.itoa q).toArray⟩:ByteArray)=x:=⟨_,rfl⟩;have hsz:sq.size+1≤9223372036854775807:=by
      have:=(Wo.itoa_len20 (q:Int) (by omega) (by omega)).2;rw[← esq];show(Lib.itoa (q:Int)).toArray.size+1≤_;simp;omega
     have ES:=mh esq;clear esq;have HF:=mh (show sq++⟨#[Wo.dch m]⟩=⟨(Lib.itoa (10*(q:Int)+m)).toArray⟩ by rw[hd,← ES.out,app1]);have hq1:(10*(q:Int)+m).tdiv 10=q:=by rw[Int.tdiv_eq_ediv_of_nonneg (by omega)];omega
     have hq2:(10*(q:Int)+m).tmod 10=m:=by rw[Int.tmod_eq_emod_of_nonneg (by omega)];omega
     have hq0:(0:Int)≤q:=by omega
     obtain⟨n,en⟩:∃n:Int,10*(q:Int)+m=n:=⟨_,rfl⟩;have hb:IntKind.u8.wrap (48+(m:Int))=48+m:=by rw[IntWalk.u8_in];omega
     have hb2:IntKind.i64.wrap (48+(m:Int))=48+m:=IntWalk.i64_in _ ⟨by omega,by omega⟩;have hb3:IntKind.i64.wrap (q:Int)=q:=IntWalk.i64_in _ ⟨by omega,by omega⟩;have hb4:IntKind.i64.wrap (m:Int)=m:=IntWalk.i64_in _ ⟨by omega,by omega⟩;have hn' : ¬n<0:=by omega
     have h10' : ¬n<10:=by omega
     have CA:=conv1 ((w.alloc (Obj.cells #[.int .u8 (48+(m:Int))] 5)).drew) w.heap.size m hm10 (by go_simp);have CH:((w.alloc (Obj.cells #[.int .u8 (48+(m:Int))] 5)).drew).cell? ⟨w.heap.size,0,none⟩=some (.int .u8 (48+(m:Int))):=by go_simp
     have HC:=mh CH;clear CH;rw[en]at hd hq1 hq2 h0 h1;rw[en]at HF;rw[en];clear hd ih h en hn h10 h0 h1
     go_enter Tryz.func24,Tryz.ntmps24
     go_wp2_with fail
     go_region_with (first|(go_at_call 24;(with_reducible refine cmo (HI.out w.drew) ?_);rintro e w1 ⟨rfl,hb1⟩;rw[ES.out];have CW:=conv1 (w1.alloc (Obj.cells #[.int .u8 (48+(m:Int))] 5)) w1.heap.size m hm10 (by go_simp))|(go_at_call 24;(with_reducible refine cmo (HI.out ((w.alloc (Obj.cells #[.int .u8 (48+(m:Int))] 5)).drew)) ?_);rintro e w1 ⟨rfl,hb1⟩;rw[ES.out];have CW:=conv1 w1 w.heap.size m hm10 ((hb1.cell (p:=⟨w.heap.size,0,none⟩) (by simp)).trans HC.out)))
     all_goals
      go_wp2
      go_ret
      refine⟨ret_str HF.out,?_⟩
      first
       | exact((brf _ w).drew.trans (hb1.mono mle)).alloc (by have:=hb1.size;simpa using this) _
       | exact(((brf _ w).alloc mle _).drew).trans (hb1.mono (by simp))
end Go.Proofs.YtbcmabolkkfgfaaGreatDoor
