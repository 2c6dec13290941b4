/- Packed. -/
import Derived.Test.YtljibgchickcpaaGreatDoorC1
set_option maxHeartbeats 2000000
open Go.Value renaming int → I
open Go.IntKind renaming i64 → O
namespace Go.Proofs
open Go.Shelf
def Tryz.lays156_ren:Go.Shelf.Ren:=⟨fun|156=>38|165=>64|166=>65|169=>66|240=>88|241=>89|276=>113|277=>114|n=>n,fun|31=>44|9=>9|3=>3|4=>4|0=>0|20=>20|72=>125|76=>129|70=>123|37=>43|75=>128|127=>161|164=>183|5=>5|80=>131|n=>n,fun|n=>n⟩
theorem Tryz.lays156:Go.Proofs.Lays.n156 Tryz.prog Tryz.lays156_ren:={
 mixed:=by kernel_rfl
 f156:=Tryz.func38.trans (congrArg some (by kernel_rfl))
 f165:=Tryz.func64.trans (congrArg some (by kernel_rfl))
 f166:=Tryz.func65.trans (congrArg some (by kernel_rfl))
 f169:=Tryz.func66.trans (congrArg some (by kernel_rfl))
 f240:=Tryz.func88.trans (congrArg some (by kernel_rfl))
 f241:=Tryz.func89.trans (congrArg some (by kernel_rfl))
 f276:=Tryz.func113.trans (congrArg some (by kernel_rfl))
 f277:=Tryz.func114.trans (congrArg some (by kernel_rfl))
 t0:=Tryz.underlying0
 a0:=Tryz.isAgg0
 z0:=Tryz.sizeOf0
 v0:=Tryz.zeroValue0
 t3:=Tryz.underlying3
 a3:=Tryz.isAgg3
 z3:=Tryz.sizeOf3
 v3:=Tryz.zeroValue3
 t4:=Tryz.underlying4
 a4:=Tryz.isAgg4
 z4:=Tryz.sizeOf4
 v4:=Tryz.zeroValue4
 t9:=Tryz.underlying9
 a9:=Tryz.isAgg9
 z9:=Tryz.sizeOf9
 v9:=Tryz.zeroValue9
 t20:=Tryz.underlying20
 a20:=Tryz.isAgg20
 z20:=Tryz.sizeOf20
 v20:=Tryz.zeroValue20
 t31:=Tryz.underlying44
 a31:=Tryz.isAgg44
 z31:=Tryz.sizeOf44
 v31:=Tryz.zeroValue44
 t37:=Tryz.underlying43
 a37:=Tryz.isAgg43
 z37:=Tryz.sizeOf43
 v37:=Tryz.zeroValue43
 t70:=Tryz.underlying123
 a70:=Tryz.isAgg123
 z70:=Tryz.sizeOf123
 v70:=Tryz.zeroValue123
 t72:=Tryz.underlying125
 a72:=Tryz.isAgg125
 z72:=Tryz.sizeOf125
 v72:=Tryz.zeroValue125
 t75:=Tryz.underlying128
 a75:=Tryz.isAgg128
 z75:=Tryz.sizeOf128
 v75:=Tryz.zeroValue128
 t76:=Tryz.underlying129
 a76:=Tryz.isAgg129
 z76:=Tryz.sizeOf129
 v76:=Tryz.zeroValue129
 t127:=Tryz.underlying161
 a127:=Tryz.isAgg161
 z127:=Tryz.sizeOf161
 v127:=Tryz.zeroValue161
 t164:=Tryz.underlying183
 a164:=Tryz.isAgg183
 z164:=Tryz.sizeOf183
 v164:=Tryz.zeroValue183 }
theorem Tryz.Builder_Extra_156:Builder.Extra Tryz.prog Tryz.lays156_ren:={
 sizeBuilder:=by kernel_rfl
 liesBuilder:=by kernel_rfl
 t5:=Tryz.underlying5
 a5:=Tryz.isAgg5
 z5:=Tryz.sizeOf5
 v5:=Tryz.zeroValue5
 infoByte:=by kernel_rfl
 cellsByte:=by kernel_rfl
 sizeByte:=by kernel_rfl
 neB5:=by decide }
open Go.RowKit in
theorem Tryz.strings_Join_none (a:Option Addr)(c:Nat)(sep:ByteArray)(w:World) :
  Calls Tryz.prog 38 #[.slice a 0 c,.string sep] w fun e w' => e = .returned (.string ⟨#[]⟩)∧w' = w:=Any.strings_Join_none Tryz.lays156 Tryz.Builder_Extra_156 a c sep w
open Go.RowKit in
theorem Tryz.strings_Join (bk o c:Nat)(xs:List ByteArray)(sep:ByteArray)(w:World)(hcells:∀(j:Nat) x,xs[j]?=some x→w.cell? ⟨bk,o+j,none⟩=some (.string x))(hbk:bk<w.heap.size)(hN:xs.length≤140737488355328)(hcap:xs.length≤c)(hlen:(Lib.join (xs.map (·.data.toList)) sep.data.toList).length≤140737488355328) :
  Calls Tryz.prog 38 #[.slice (some ⟨bk,o,none⟩) xs.length c,.string sep] w fun e w' => e = .returned (.string ⟨(Lib.join (xs.map (·.data.toList)) sep.data.toList).toArray⟩)∧Below w.heap.size w w' := Any.strings_Join Tryz.lays156 Tryz.Builder_Extra_156 bk o c xs sep w hcells hbk hN hcap hlen
def Tryz.lays134_ren:Go.Shelf.Ren:=⟨fun|134=>162|129=>152|n=>n,fun|53=>205|3=>3|4=>4|46=>165|5=>5|9=>9|n=>n,fun|n=>n⟩
theorem Tryz.lays134:Go.Proofs.Lays.n134 Tryz.prog Tryz.lays134_ren:={
 mixed:=by kernel_rfl
 f129:=Tryz.func152.trans (congrArg some (by kernel_rfl))
 f134:=Tryz.func162.trans (congrArg some (by kernel_rfl))
 t3:=Tryz.underlying3
 a3:=Tryz.isAgg3
 z3:=Tryz.sizeOf3
 v3:=Tryz.zeroValue3
 t4:=Tryz.underlying4
 a4:=Tryz.isAgg4
 z4:=Tryz.sizeOf4
 v4:=Tryz.zeroValue4
 t5:=Tryz.underlying5
 a5:=Tryz.isAgg5
 z5:=Tryz.sizeOf5
 v5:=Tryz.zeroValue5
 t9:=Tryz.underlying9
 a9:=Tryz.isAgg9
 z9:=Tryz.sizeOf9
 v9:=Tryz.zeroValue9
 t46:=Tryz.underlying165
 a46:=Tryz.isAgg165
 z46:=Tryz.sizeOf165
 v46:=Tryz.zeroValue165
 t53:=Tryz.underlying205
 a53:=Tryz.isAgg205
 z53:=Tryz.sizeOf205
 v53:=Tryz.zeroValue205 }
theorem Tryz.bits_LeadingZeros64 (x:Int)(w:World)(h0:0≤x)(h1:x≤18446744073709551615) :
  Calls Tryz.prog 162 #[.int .u64 x] w fun e w' => e = .returned (I O (64 - (Lib.bitLen x.toNat:Int)))∧w' = w:=Any.bits_LeadingZeros64 Tryz.lays134 x w h0 h1
def Tryz.laysM171_ren:Go.Shelf.Ren:=⟨fun|171=>67|243=>90|246=>115|283=>135|284=>136|285=>137|286=>138|129=>152|317=>151|318=>153|319=>154|320=>155|337=>164|338=>165|n=>n,fun|3=>3|9=>9|2=>2|4=>4|171=>204|0=>0|53=>205|37=>43|5=>5|173=>208|212=>220|51=>189|20=>20|213=>221|46=>165|232=>238|233=>239|n=>n,fun|17=>1|18=>6|19=>7|n=>n⟩
theorem Tryz.laysM171:Go.Proofs.LaysM.n171 Tryz.prog Tryz.laysM171_ren:={
 mixed:=by kernel_rfl
 f129:=Tryz.func152.trans (congrArg some (by kernel_rfl))
 f171:=Tryz.func67.trans (congrArg some (by kernel_rfl))
 f243:=Tryz.func90.trans (congrArg some (by kernel_rfl))
 f246:=Tryz.func115.trans (congrArg some (by kernel_rfl))
 f283:=Tryz.func135.trans (congrArg some (by kernel_rfl))
 f284:=Tryz.func136.trans (congrArg some (by kernel_rfl))
 f285:=Tryz.func137.trans (congrArg some (by kernel_rfl))
 f286:=Tryz.func138.trans (congrArg some (by kernel_rfl))
 f317:=Tryz.func151.trans (congrArg some (by kernel_rfl))
 f318:=Tryz.func153.trans (congrArg some (by kernel_rfl))
 f319:=Tryz.func154.trans (congrArg some (by kernel_rfl))
 f320:=Tryz.func155.trans (congrArg some (by kernel_rfl))
 f337:=Tryz.func164.trans (congrArg some (by kernel_rfl))
 f338:=Tryz.func165.trans (congrArg some (by kernel_rfl))
 t0:=Tryz.underlying0
 a0:=Tryz.isAgg0
 z0:=Tryz.sizeOf0
 v0:=Tryz.zeroValue0
 t2:=Tryz.underlying2
 a2:=Tryz.isAgg2
 z2:=Tryz.sizeOf2
 v2:=Tryz.zeroValue2
 t3:=Tryz.underlying3
 a3:=Tryz.isAgg3
 z3:=Tryz.sizeOf3
 v3:=Tryz.zeroValue3
 t4:=Tryz.underlying4
 a4:=Tryz.isAgg4
 z4:=Tryz.sizeOf4
 v4:=Tryz.zeroValue4
 t5:=Tryz.underlying5
 a5:=Tryz.isAgg5
 z5:=Tryz.sizeOf5
 v5:=Tryz.zeroValue5
 t9:=Tryz.underlying9
 a9:=Tryz.isAgg9
 z9:=Tryz.sizeOf9
 v9:=Tryz.zeroValue9
 t20:=Tryz.underlying20
 a20:=Tryz.isAgg20
 z20:=Tryz.sizeOf20
 v20:=Tryz.zeroValue20
 t37:=Tryz.underlying43
 a37:=Tryz.isAgg43
 z37:=Tryz.sizeOf43
 v37:=Tryz.zeroValue43
 t46:=Tryz.underlying165
 a46:=Tryz.isAgg165
 z46:=Tryz.sizeOf165
 v46:=Tryz.zeroValue165
 t51:=Tryz.underlying189
 a51:=Tryz.isAgg189
 z51:=Tryz.sizeOf189
 v51:=Tryz.zeroValue189
 t53:=Tryz.underlying205
 a53:=Tryz.isAgg205
 z53:=Tryz.sizeOf205
 v53:=Tryz.zeroValue205
 t171:=Tryz.underlying204
 a171:=Tryz.isAgg204
 z171:=Tryz.sizeOf204
 v171:=Tryz.zeroValue204
 t173:=Tryz.underlying208
 a173:=Tryz.isAgg208
 z173:=Tryz.sizeOf208
 v173:=Tryz.zeroValue208
 t212:=Tryz.underlying220
 a212:=Tryz.isAgg220
 z212:=Tryz.sizeOf220
 v212:=Tryz.zeroValue220
 t213:=Tryz.underlying221
 a213:=Tryz.isAgg221
 z213:=Tryz.sizeOf221
 t232:=Tryz.underlying238
 a232:=Tryz.isAgg238
 z232:=Tryz.sizeOf238
 v232:=Tryz.zeroValue238
 t233:=Tryz.underlying239
 a233:=Tryz.isAgg239
 z233:=Tryz.sizeOf239
 v233:=Tryz.zeroValue239
 g17:=by kernel_rfl
 g18:=by kernel_rfl
 g19:=by kernel_rfl
 i0:=by kernel_rfl
 i2:=by kernel_rfl
 i3:=by kernel_rfl
 i4:=by kernel_rfl
 i5:=by kernel_rfl
 i9:=by kernel_rfl
 i20:=by kernel_rfl
 i37:=by kernel_rfl
 i46:=by kernel_rfl
 i51:=by kernel_rfl
 i53:=by kernel_rfl
 i171:=by kernel_rfl
 i173:=by kernel_rfl
 i212:=by kernel_rfl
 i232:=by kernel_rfl
 i233:=by kernel_rfl
 m17:=by kernel_rfl
 m18:=by kernel_rfl
 m19:=by kernel_rfl }
open Go.RowKit Go.Sort Go.Lib in
theorem Tryz.strconv_Itoa (n:Int)(h0 : -9223372036854775808≤n)(h1:n≤9223372036854775807)(w:World)(htab:Lib.TabIs Tryz.prog w "internal/strconv.uint64pow10" .u64 Lib.pow10Tab) :
  Calls Tryz.prog 67 #[I O n] w fun e w' => e = .returned (.string ⟨(Lib.itoa n).toArray⟩)∧∃k os,w' = grow (w.drewN k) os:=Any.strconv_Itoa Tryz.laysM171 n h0 h1 w htab
def Tryz.laysC172_ren:Go.Shelf.Ren:=⟨fun|172=>142|244=>157|245=>158|247=>166|279=>167|280=>168|281=>169|282=>170|287=>173|316=>174|171=>67|205=>175|321=>176|322=>177|243=>90|246=>115|283=>135|284=>136|285=>137|286=>138|129=>152|317=>151|318=>153|319=>154|320=>155|337=>164|338=>165|n=>n,fun|9=>9|3=>3|75=>128|76=>129|4=>4|5=>5|167=>232|37=>43|0=>0|85=>233|2=>2|168=>235|53=>205|175=>240|46=>165|210=>244|127=>161|145=>249|143=>247|21=>21|171=>204|173=>208|212=>220|51=>189|20=>20|213=>221|232=>238|233=>239|80=>131|n=>n,fun|15=>8|16=>9|17=>1|18=>6|19=>7|n=>n⟩
theorem Tryz.laysC172:Go.Proofs.LaysC.n172 Tryz.prog Tryz.laysC172_ren:={
 mixed:=by kernel_rfl
 f129:=Tryz.func152.trans (congrArg some (by kernel_rfl))
 f171:=Tryz.func67.trans (congrArg some (by kernel_rfl))
 f172:=Tryz.func142.trans (congrArg some (by kernel_rfl))
 f205:=Tryz.func175.trans (congrArg some (by kernel_rfl))
 f243:=Tryz.func90.trans (congrArg some (by kernel_rfl))
 f244:=Tryz.func157.trans (congrArg some (by kernel_rfl))
 f245:=Tryz.func158.trans (congrArg some (by kernel_rfl))
 f246:=Tryz.func115.trans (congrArg some (by kernel_rfl))
 f247:=Tryz.func166.trans (congrArg some (by kernel_rfl))
 f279:=Tryz.func167.trans (congrArg some (by kernel_rfl))
 f280:=Tryz.func168.trans (congrArg some (by kernel_rfl))
 f281:=Tryz.func169.trans (congrArg some (by kernel_rfl))
 f282:=Tryz.func170.trans (congrArg some (by kernel_rfl))
 f283:=Tryz.func135.trans (congrArg some (by kernel_rfl))
 f284:=Tryz.func136.trans (congrArg some (by kernel_rfl))
 f285:=Tryz.func137.trans (congrArg some (by kernel_rfl))
 f286:=Tryz.func138.trans (congrArg some (by kernel_rfl))
 f287:=Tryz.func173.trans (congrArg some (by kernel_rfl))
 f316:=Tryz.func174.trans (congrArg some (by kernel_rfl))
 f317:=Tryz.func151.trans (congrArg some (by kernel_rfl))
 f318:=Tryz.func153.trans (congrArg some (by kernel_rfl))
 f319:=Tryz.func154.trans (congrArg some (by kernel_rfl))
 f320:=Tryz.func155.trans (congrArg some (by kernel_rfl))
 f321:=Tryz.func176.trans (congrArg some (by kernel_rfl))
 f322:=Tryz.func177.trans (congrArg some (by kernel_rfl))
 f337:=Tryz.func164.trans (congrArg some (by kernel_rfl))
 f338:=Tryz.func165.trans (congrArg some (by kernel_rfl))
 t0:=Tryz.underlying0
 a0:=Tryz.isAgg0
 z0:=Tryz.sizeOf0
 v0:=Tryz.zeroValue0
 t2:=Tryz.underlying2
 a2:=Tryz.isAgg2
 z2:=Tryz.sizeOf2
 v2:=Tryz.zeroValue2
 t3:=Tryz.underlying3
 a3:=Tryz.isAgg3
 z3:=Tryz.sizeOf3
 v3:=Tryz.zeroValue3
 t4:=Tryz.underlying4
 a4:=Tryz.isAgg4
 z4:=Tryz.sizeOf4
 v4:=Tryz.zeroValue4
 t5:=Tryz.underlying5
 a5:=Tryz.isAgg5
 z5:=Tryz.sizeOf5
 v5:=Tryz.zeroValue5
 t9:=Tryz.underlying9
 a9:=Tryz.isAgg9
 z9:=Tryz.sizeOf9
 v9:=Tryz.zeroValue9
 t20:=Tryz.underlying20
 a20:=Tryz.isAgg20
 z20:=Tryz.sizeOf20
 v20:=Tryz.zeroValue20
 t21:=Tryz.underlying21
 a21:=Tryz.isAgg21
 z21:=Tryz.sizeOf21
 v21:=Tryz.zeroValue21
 t37:=Tryz.underlying43
 a37:=Tryz.isAgg43
 z37:=Tryz.sizeOf43
 v37:=Tryz.zeroValue43
 t46:=Tryz.underlying165
 a46:=Tryz.isAgg165
 z46:=Tryz.sizeOf165
 v46:=Tryz.zeroValue165
 t51:=Tryz.underlying189
 a51:=Tryz.isAgg189
 z51:=Tryz.sizeOf189
 v51:=Tryz.zeroValue189
 t53:=Tryz.underlying205
 a53:=Tryz.isAgg205
 z53:=Tryz.sizeOf205
 v53:=Tryz.zeroValue205
 t75:=Tryz.underlying128
 a75:=Tryz.isAgg128
 z75:=Tryz.sizeOf128
 v75:=Tryz.zeroValue128
 t76:=Tryz.underlying129
 a76:=Tryz.isAgg129
 z76:=Tryz.sizeOf129
 v76:=Tryz.zeroValue129
 t85:=Tryz.underlying233
 a85:=Tryz.isAgg233
 z85:=Tryz.sizeOf233
 v85:=Tryz.zeroValue233
 t127:=Tryz.underlying161
 a127:=Tryz.isAgg161
 z127:=Tryz.sizeOf161
 v127:=Tryz.zeroValue161
 t143:=Tryz.underlying247
 a143:=Tryz.isAgg247
 z143:=Tryz.sizeOf247
 v143:=Tryz.zeroValue247
 t145:=Tryz.underlying249
 a145:=Tryz.isAgg249
 z145:=Tryz.sizeOf249
 v145:=Tryz.zeroValue249
 t167:=Tryz.underlying232
 a167:=Tryz.isAgg232
 z167:=Tryz.sizeOf232
 v167:=Tryz.zeroValue232
 t168:=Tryz.underlying235
 a168:=Tryz.isAgg235
 z168:=Tryz.sizeOf235
 v168:=Tryz.zeroValue235
 t171:=Tryz.underlying204
 a171:=Tryz.isAgg204
 z171:=Tryz.sizeOf204
 v171:=Tryz.zeroValue204
 t173:=Tryz.underlying208
 a173:=Tryz.isAgg208
 z173:=Tryz.sizeOf208
 v173:=Tryz.zeroValue208
 t175:=Tryz.underlying240
 a175:=Tryz.isAgg240
 z175:=Tryz.sizeOf240
 v175:=Tryz.zeroValue240
 t210:=Tryz.underlying244
 a210:=Tryz.isAgg244
 z210:=Tryz.sizeOf244
 v210:=Tryz.zeroValue244
 t212:=Tryz.underlying220
 a212:=Tryz.isAgg220
 z212:=Tryz.sizeOf220
 v212:=Tryz.zeroValue220
 t213:=Tryz.underlying221
 a213:=Tryz.isAgg221
 z213:=Tryz.sizeOf221
 t232:=Tryz.underlying238
 a232:=Tryz.isAgg238
 z232:=Tryz.sizeOf238
 v232:=Tryz.zeroValue238
 t233:=Tryz.underlying239
 a233:=Tryz.isAgg239
 z233:=Tryz.sizeOf239
 v233:=Tryz.zeroValue239
 g15:=by kernel_rfl
 g16:=by kernel_rfl
 g17:=by kernel_rfl
 g18:=by kernel_rfl
 g19:=by kernel_rfl
 t80:=Tryz.underlying131
 a80:=Tryz.isAgg131
 z80:=Tryz.sizeOf131
 v80:=Tryz.zeroValue131
 i0:=by kernel_rfl
 i2:=by kernel_rfl
 i3:=by kernel_rfl
 i4:=by kernel_rfl
 i5:=by kernel_rfl
 i9:=by kernel_rfl
 i20:=by kernel_rfl
 i21:=by kernel_rfl
 i37:=by kernel_rfl
 i46:=by kernel_rfl
 i51:=by kernel_rfl
 i53:=by kernel_rfl
 i75:=by kernel_rfl
 i76:=by kernel_rfl
 i80:=by kernel_rfl
 i85:=by kernel_rfl
 i127:=by kernel_rfl
 i143:=by kernel_rfl
 i145:=by kernel_rfl
 i167:=by kernel_rfl
 i168:=by kernel_rfl
 i171:=by kernel_rfl
 i173:=by kernel_rfl
 i175:=by kernel_rfl
 i210:=by kernel_rfl
 i212:=by kernel_rfl
 i232:=by kernel_rfl
 i233:=by kernel_rfl
 m15:=by kernel_rfl
 m16:=by kernel_rfl
 m17:=by kernel_rfl
 m18:=by kernel_rfl
 m19:=by kernel_rfl
 c0:=by kernel_rfl
 c2:=by kernel_rfl
 c3:=by kernel_rfl
 c4:=by kernel_rfl
 c5:=by kernel_rfl
 c9:=by kernel_rfl
 c20:=by kernel_rfl
 c21:=by kernel_rfl
 c37:=by kernel_rfl
 c46:=by kernel_rfl
 c51:=by kernel_rfl
 c53:=by kernel_rfl
 c75:=by kernel_rfl
 c76:=by kernel_rfl
 c80:=by kernel_rfl
 c85:=by kernel_rfl
 c127:=by kernel_rfl
 c143:=by kernel_rfl
 c145:=by kernel_rfl
 c167:=by kernel_rfl
 c168:=by kernel_rfl
 c171:=by kernel_rfl
 c173:=by kernel_rfl
 c175:=by kernel_rfl
 c210:=by kernel_rfl
 c212:=by kernel_rfl
 c213:=by kernel_rfl
 c232:=by kernel_rfl
 c233:=by kernel_rfl }
open Go.RowKit in
theorem Tryz.strconv_Atoi_ok (s:ByteArray)(hmax:s.size≤9223372036854775806)(v:Int)(h:Lib.atoiAll s.data.toList = .ok v)(w:World) :
  Calls Tryz.prog 142 #[.string s] w fun e w' => e = .returned (.tuple #[I O v,.nilIface])∧(w' = w∨∃t,w' = Lib.bytesWorld w 5 t):=Any.strconv_Atoi_ok Tryz.laysC172 s hmax v h w
open Go.RowKit in
theorem Tryz.strconv_Atoi_bad_var (s:ByteArray)(hlim:s.size≤281474976710656)(h1:∀v,Lib.atoiAll s.data.toList ≠ .ok v)(h2:Lib.atoiAll s.data.toList ≠ .range)(tp:TypeId)(p:Value)(w:World)(hvar:w.var? Tryz.prog "strconv.ErrSyntax" = some #[.iface tp p]) :
  Calls Tryz.prog 142 #[.string s] w fun e w' => ∃N,e = .returned (.tuple #[I O 0,.iface 235 (.pointer (some ⟨N,0,none⟩))])∧w.heap.size≤N∧w'.heap[N]?=some (.cells #[.string ⟨#[65,116,111,105]⟩,.string s,.iface tp p] 244 (0,0))∧Below w.heap.size w w' :=by
 cases e:Lib.atoiAll s.data.toList with
 | ok v=>exact absurd e (h1 v)
 | range=>exact absurd e h2
 | _=>exact Any.strconv_Atoi_syntax_var Tryz.laysC172 s hlim e tp p w hvar
open Go.RowKit in
theorem Tryz.strconv_Atoi_range_var (s:ByteArray)(hlim:s.size≤281474976710656)(h:Lib.atoiAll s.data.toList = .range)(tp:TypeId)(p:Value)(w:World)(hvar:w.var? Tryz.prog "strconv.ErrRange" = some #[.iface tp p]) :
  Calls Tryz.prog 142 #[.string s] w fun e w' => ∃N,e = .returned (.tuple #[I O (Lib.atoiSat s.data.toList),.iface 235 (.pointer (some ⟨N,0,none⟩))])∧w.heap.size≤N∧w'.heap[N]?=some (.cells #[.string ⟨#[65,116,111,105]⟩,.string s,.iface tp p] 244 (0,0))∧Below w.heap.size w w' := Any.strconv_Atoi_range_var Tryz.laysC172 s hlim h tp p w hvar
def Tryz.lays143_ren:Go.Shelf.Ren:=⟨fun|143=>43|219=>74|217=>94|225=>95|224=>96|267=>97|266=>119|314=>120|n=>n,fun|9=>9|3=>3|4=>4|5=>5|46=>165|146=>190|51=>189|n=>n,fun|1=>0|n=>n⟩
theorem Tryz.lays143:Go.Proofs.Lays.n143 Tryz.prog Tryz.lays143_ren:={
 mixed:=by kernel_rfl
 f143:=Tryz.func43.trans (congrArg some (by kernel_rfl))
 f217:=Tryz.func94.trans (congrArg some (by kernel_rfl))
 f219:=Tryz.func74.trans (congrArg some (by kernel_rfl))
 f224:=Tryz.func96.trans (congrArg some (by kernel_rfl))
 f225:=Tryz.func95.trans (congrArg some (by kernel_rfl))
 f266:=Tryz.func119.trans (congrArg some (by kernel_rfl))
 f267:=Tryz.func97.trans (congrArg some (by kernel_rfl))
 f314:=Tryz.func120.trans (congrArg some (by kernel_rfl))
 t3:=Tryz.underlying3
 a3:=Tryz.isAgg3
 z3:=Tryz.sizeOf3
 v3:=Tryz.zeroValue3
 t4:=Tryz.underlying4
 a4:=Tryz.isAgg4
 z4:=Tryz.sizeOf4
 v4:=Tryz.zeroValue4
 t5:=Tryz.underlying5
 a5:=Tryz.isAgg5
 z5:=Tryz.sizeOf5
 v5:=Tryz.zeroValue5
 t9:=Tryz.underlying9
 a9:=Tryz.isAgg9
 z9:=Tryz.sizeOf9
 v9:=Tryz.zeroValue9
 t46:=Tryz.underlying165
 a46:=Tryz.isAgg165
 z46:=Tryz.sizeOf165
 v46:=Tryz.zeroValue165
 t51:=Tryz.underlying189
 a51:=Tryz.isAgg189
 z51:=Tryz.sizeOf189
 v51:=Tryz.zeroValue189
 t146:=Tryz.underlying190
 a146:=Tryz.isAgg190
 z146:=Tryz.sizeOf190
 v146:=Tryz.zeroValue190
 g1:=by kernel_rfl }
open Go.RowKit Go.Lib in
theorem Tryz.strings_Index_one (s:ByteArray)(c:UInt8)(w:World) :
  Calls Tryz.prog 43 #[.string s,.string ⟨#[c]⟩] w fun e w' => e = .returned (I O (Lib.indexByte s.data.toList c))∧w' = w:=Any.strings_Index_one Tryz.lays143 s c w
def Tryz.lays145_ren:Go.Shelf.Ren:=⟨fun|145=>41|220=>68|219=>74|217=>94|225=>95|224=>96|267=>97|266=>119|314=>120|n=>n,fun|9=>9|4=>4|59=>91|3=>3|5=>5|46=>165|146=>190|51=>189|n=>n,fun|1=>0|n=>n⟩
theorem Tryz.lays145:Go.Proofs.Lays.n145 Tryz.prog Tryz.lays145_ren:={
 mixed:=by kernel_rfl
 f145:=Tryz.func41.trans (congrArg some (by kernel_rfl))
 f217:=Tryz.func94.trans (congrArg some (by kernel_rfl))
 f219:=Tryz.func74.trans (congrArg some (by kernel_rfl))
 f220:=Tryz.func68.trans (congrArg some (by kernel_rfl))
 f224:=Tryz.func96.trans (congrArg some (by kernel_rfl))
 f225:=Tryz.func95.trans (congrArg some (by kernel_rfl))
 f266:=Tryz.func119.trans (congrArg some (by kernel_rfl))
 f267:=Tryz.func97.trans (congrArg some (by kernel_rfl))
 f314:=Tryz.func120.trans (congrArg some (by kernel_rfl))
 t3:=Tryz.underlying3
 a3:=Tryz.isAgg3
 z3:=Tryz.sizeOf3
 v3:=Tryz.zeroValue3
 t4:=Tryz.underlying4
 a4:=Tryz.isAgg4
 z4:=Tryz.sizeOf4
 v4:=Tryz.zeroValue4
 t5:=Tryz.underlying5
 a5:=Tryz.isAgg5
 z5:=Tryz.sizeOf5
 v5:=Tryz.zeroValue5
 t9:=Tryz.underlying9
 a9:=Tryz.isAgg9
 z9:=Tryz.sizeOf9
 v9:=Tryz.zeroValue9
 t46:=Tryz.underlying165
 a46:=Tryz.isAgg165
 z46:=Tryz.sizeOf165
 v46:=Tryz.zeroValue165
 t51:=Tryz.underlying189
 a51:=Tryz.isAgg189
 z51:=Tryz.sizeOf189
 v51:=Tryz.zeroValue189
 t59:=Tryz.underlying91
 a59:=Tryz.isAgg91
 z59:=Tryz.sizeOf91
 v59:=Tryz.zeroValue91
 t146:=Tryz.underlying190
 a146:=Tryz.isAgg190
 z146:=Tryz.sizeOf190
 v146:=Tryz.zeroValue190
 g1:=by kernel_rfl }
open Go.RowKit Go.Lib in
theorem Tryz.strings_Cut (s sep:ByteArray)(m:Int)(w:World)(hs:s.size<4294967281)(hm:w.cell? ⟨0,0,none⟩=some (I O m)) :
  Calls Tryz.prog 41 #[.string s,.string sep] w fun e w' => e = .returned (.tuple #[.string ⟨(Lib.cut s.data.toList sep.data.toList).1.toArray⟩,.string ⟨(Lib.cut s.data.toList sep.data.toList).2.1.toArray⟩,.bool (Lib.cut s.data.toList sep.data.toList).2.2])∧∃n,w' = w.drewN n:=Any.strings_Cut Tryz.lays145 s sep m w hs hm
def Tryz.lays146_ren:Go.Shelf.Ren:=⟨fun|146=>69|221=>91|268=>116|138=>117|143=>43|195=>139|197=>140|218=>141|219=>74|260=>156|217=>94|225=>95|224=>96|267=>97|266=>119|314=>120|n=>n,fun|9=>9|31=>44|3=>3|4=>4|0=>0|105=>211|21=>21|5=>5|46=>165|119=>228|139=>231|138=>230|146=>190|51=>189|n=>n,fun|1=>0|3=>4|4=>5|n=>n⟩
theorem Tryz.lays146:Go.Proofs.Lays.n146 Tryz.prog Tryz.lays146_ren:={
 mixed:=by kernel_rfl
 f138:=Tryz.func117.trans (congrArg some (by kernel_rfl))
 f143:=Tryz.func43.trans (congrArg some (by kernel_rfl))
 f146:=Tryz.func69.trans (congrArg some (by kernel_rfl))
 f195:=Tryz.func139.trans (congrArg some (by kernel_rfl))
 f197:=Tryz.func140.trans (congrArg some (by kernel_rfl))
 f217:=Tryz.func94.trans (congrArg some (by kernel_rfl))
 f218:=Tryz.func141.trans (congrArg some (by kernel_rfl))
 f219:=Tryz.func74.trans (congrArg some (by kernel_rfl))
 f221:=Tryz.func91.trans (congrArg some (by kernel_rfl))
 f224:=Tryz.func96.trans (congrArg some (by kernel_rfl))
 f225:=Tryz.func95.trans (congrArg some (by kernel_rfl))
 f260:=Tryz.func156.trans (congrArg some (by kernel_rfl))
 f266:=Tryz.func119.trans (congrArg some (by kernel_rfl))
 f267:=Tryz.func97.trans (congrArg some (by kernel_rfl))
 f268:=Tryz.func116.trans (congrArg some (by kernel_rfl))
 f314:=Tryz.func120.trans (congrArg some (by kernel_rfl))
 t0:=Tryz.underlying0
 a0:=Tryz.isAgg0
 z0:=Tryz.sizeOf0
 v0:=Tryz.zeroValue0
 t3:=Tryz.underlying3
 a3:=Tryz.isAgg3
 z3:=Tryz.sizeOf3
 v3:=Tryz.zeroValue3
 t4:=Tryz.underlying4
 a4:=Tryz.isAgg4
 z4:=Tryz.sizeOf4
 v4:=Tryz.zeroValue4
 t5:=Tryz.underlying5
 a5:=Tryz.isAgg5
 z5:=Tryz.sizeOf5
 v5:=Tryz.zeroValue5
 t9:=Tryz.underlying9
 a9:=Tryz.isAgg9
 z9:=Tryz.sizeOf9
 v9:=Tryz.zeroValue9
 t21:=Tryz.underlying21
 a21:=Tryz.isAgg21
 z21:=Tryz.sizeOf21
 v21:=Tryz.zeroValue21
 t31:=Tryz.underlying44
 a31:=Tryz.isAgg44
 z31:=Tryz.sizeOf44
 v31:=Tryz.zeroValue44
 t46:=Tryz.underlying165
 a46:=Tryz.isAgg165
 z46:=Tryz.sizeOf165
 v46:=Tryz.zeroValue165
 t51:=Tryz.underlying189
 a51:=Tryz.isAgg189
 z51:=Tryz.sizeOf189
 v51:=Tryz.zeroValue189
 t105:=Tryz.underlying211
 a105:=Tryz.isAgg211
 z105:=Tryz.sizeOf211
 v105:=Tryz.zeroValue211
 t119:=Tryz.underlying228
 a119:=Tryz.isAgg228
 z119:=Tryz.sizeOf228
 t138:=Tryz.underlying230
 a138:=Tryz.isAgg230
 z138:=Tryz.sizeOf230
 v138:=Tryz.zeroValue230
 t139:=Tryz.underlying231
 a139:=Tryz.isAgg231
 z139:=Tryz.sizeOf231
 v139:=Tryz.zeroValue231
 t146:=Tryz.underlying190
 a146:=Tryz.isAgg190
 z146:=Tryz.sizeOf190
 v146:=Tryz.zeroValue190
 g1:=by kernel_rfl
 g3:=by kernel_rfl
 g4:=by kernel_rfl }
open Go.RowKit Go.Lib in
theorem Tryz.strings_Split (s sep:ByteArray)(m:Int)(w:World)(hs:s.size<4294967281)(hm:w.cell? ⟨0,0,none⟩=some (I O m))(h1:1≤sep.size) :
  Calls Tryz.prog 69 #[.string s,.string sep] w fun e w' =>
   e = .returned (.slice (some ⟨w.heap.size,0,none⟩) (Lib.countB s sep+1) (Lib.countB s sep+1))∧w' = w.alloc (.cells ((Lib.splitB sep 0 (Lib.countB s sep) s).map Value.string).toArray 9):=Any.strings_Split Tryz.lays146 (by kernel_rfl) s sep m w hs hm h1
def Tryz.lays264_ren:Go.Shelf.Ren:=⟨fun|264=>146|n=>n,fun|53=>205|46=>165|n=>n,fun|n=>n⟩
theorem Tryz.lays264:Go.Proofs.Lays.n264 Tryz.prog Tryz.lays264_ren:={
 mixed:=by kernel_rfl
 f264:=Tryz.func146.trans (congrArg some (by kernel_rfl))
 t46:=Tryz.underlying165
 a46:=Tryz.isAgg165
 z46:=Tryz.sizeOf165
 v46:=Tryz.zeroValue165
 t53:=Tryz.underlying205
 a53:=Tryz.isAgg205
 z53:=Tryz.sizeOf205
 v53:=Tryz.zeroValue205 }
open Go.RowKit Go.Lib in
theorem Tryz.bits_Mul64 (x y:Nat)(hx:x<18446744073709551616)(hy:y<18446744073709551616)(w:World) :
  Calls Tryz.prog 146 #[.int .u64 x,.int .u64 y] w fun e w' => e = .returned (.tuple #[.int .u64 ((x*y / 18446744073709551616:Nat):Int),.int .u64 ((x*y % 18446744073709551616:Nat):Int)])∧w' = w:=Any.bits_Mul64 Tryz.lays264 x y hx hy w
end Go.Proofs
namespace Go.Proofs.YtljibgchickcpaaGreatDoor
open Go.RowKit
theorem proper_any (a b:Int)(w:World) :
  Calls Tryz.prog 148 #[I O a,I O b] w fun e w' => e = .returned (.bool (Ex.fits a b))∧w=w' :=by
 go_enter Tryz.func148,Tryz.ntmps148
 go_wp2
 all_goals
  go_ret
  refine⟨ret_bool ?_,rfl⟩
  unfold Ex.fits
  simp
  try omega
theorem refdown_any (a b:Int)(w:World) :
  Calls Tryz.prog 129 #[I O a,I O b] w fun e w' => e = .returned (I O (Ex.down a b))∧w=w' :=by
 by_cases hf:Ex.fits a b=true
 ·obtain⟨h1,h2,h3,h4⟩:=Ex.fits_iff.1 hf
  obtain⟨e1,e2,e3⟩:=Ex.tdiv_mul hf;obtain⟨b1,b2⟩:=Ex.tdiv_bd hf;have hd:Ex.down a b=a / b:=by unfold Ex.down;rw[if_pos hf]
  rw[hd,← e3];have em:IntKind.i64.wrap (a.tdiv b*b)=a.tdiv b*b:=IntWalk.i64_in _ ⟨by omega,by omega⟩;clear hd e3;have hb:¬b=0:=by omega
  by_cases hlt:a<a.tdiv b*b
  ·rw[if_pos hlt]
   go_enter Tryz.func129,Tryz.ntmps129
   go_wp2_with (go_at_call 148;refine(proper_any _ _ _).mono ?_;rintro e w' ⟨rfl,rfl⟩)
   go_ret
   exact⟨rfl,rfl⟩
  ·rw[if_neg hlt]
   go_enter Tryz.func129,Tryz.ntmps129
   go_wp2_with (go_at_call 148;refine(proper_any _ _ _).mono ?_;rintro e w' ⟨rfl,rfl⟩)
   go_ret
   exact⟨rfl,rfl⟩
 ·replace hf:Ex.fits a b=false:=by simpa using hf
  have hd:Ex.down a b=0:=by unfold Ex.down;rw[hf];rfl
  rw[hd]
  go_enter Tryz.func129,Tryz.ntmps129
  go_wp2_with (go_at_call 148;refine(proper_any _ _ _).mono ?_;rintro e w' ⟨rfl,rfl⟩)
  go_ret
  exact⟨rfl,rfl⟩
theorem lz_said:LzSaid:=fun y w h1 h2=>by
 obtain⟨s1,s2,s3,s4⟩:=Kn.lz_spec h1 h2;rw[← s2];exact Calls.same (Tryz.bits_LeadingZeros64 y w (by omega) (by omega))
theorem div_any (hi lo y:Int)(w:World)(h0:0≤hi)(h1:hi<y)(h2:y<18446744073709551616)(h3:0≤lo)(h4:lo<18446744073709551616) :
  Calls Tryz.prog 147 #[.int .u64 hi,.int .u64 lo,.int .u64 y] w fun e w' => e = .returned (.tuple #[.int .u64 ((hi*18446744073709551616+lo) / y),.int .u64 ((hi*18446744073709551616+lo) % y)])∧∃n,w' = w.drewN n :=
 div64_any lz_said hi lo y w h0 h1 h2 h3 h4
theorem bstep {B:Nat}{w w1 w2:World}(hs:B≤w.heap.size)(h:Below B w w1)(h2:Below w1.heap.size w1 w2):Below B w w2:=bnext h (Nat.le_trans hs h.size) h2
theorem balloc {B:Nat}{w w1:World}(hs:B≤w.heap.size)(h:Below B w w1)(o:Obj):Below B w (w1.alloc o):=h.alloc (Nat.le_trans hs h.size) o
theorem As.measB_iff {a b:Int}:As.measB a b=true↔0≤a∧a≤268435456∧0≤b∧b≤16777216:=by
 unfold As.measB;simp only[Bool.and_eq_true,decide_eq_true_eq]
theorem As.measB_not {a b:Int}(h:¬(0≤a∧a≤268435456∧0≤b∧b≤16777216)):As.measB a b=false:=by
 rw[← Bool.not_eq_true,As.measB_iff];exact h
theorem refvalid8_any (a b:Int)(w:World):Calls Tryz.prog 172 #[.agg #[I O a,I O b]] w fun e w' => e = .returned (.bool (As.measB a b))∧Below w.heap.size w w' :=by
 have HA:=mh (balloc mle (brf w.heap.size w) (.cells #[I O a,I O b] 63))
 by_cases h1:0≤a
 rotate_left
 ·rw[As.measB_not (by omega)]
  go_enter Tryz.func172,Tryz.ntmps172
  go_wp2
  go_ret
  exact⟨rfl,HA.out⟩
 by_cases h2:a≤268435456
 rotate_left
 ·rw[As.measB_not (by omega)]
  go_enter Tryz.func172,Tryz.ntmps172
  go_wp2
  go_ret
  exact⟨rfl,HA.out⟩
 by_cases h3:0≤b
 rotate_left
 ·rw[As.measB_not (by omega)]
  go_enter Tryz.func172,Tryz.ntmps172
  go_wp2
  go_ret
  exact⟨rfl,HA.out⟩
 by_cases h4:b≤16777216
 rotate_left
 ·rw[As.measB_not (by omega)]
  go_enter Tryz.func172,Tryz.ntmps172
  go_wp2
  go_ret
  exact⟨rfl,HA.out⟩
 ·rw[As.measB_iff.2 ⟨h1,h2,h3,h4⟩]
  go_enter Tryz.func172,Tryz.ntmps172
  go_wp2
  go_ret
  exact⟨rfl,HA.out⟩
theorem measured27_any (a b:Int)(w:World):Calls Tryz.prog 133 #[.agg #[I O a,I O b]] w fun e w' => e = .returned (.bool (As.measB a b))∧Below w.heap.size w w' :=by
 have HA:=mh (balloc mle (brf w.heap.size w) (.cells #[I O a,I O b] 63))
 by_cases h1:0≤a
 rotate_left
 ·rw[As.measB_not (by omega)]
  go_enter Tryz.func133,Tryz.ntmps133
  go_wp2
  go_ret
  exact⟨rfl,HA.out⟩
 by_cases h2:a≤268435456
 rotate_left
 ·rw[As.measB_not (by omega)]
  go_enter Tryz.func133,Tryz.ntmps133
  go_wp2
  go_ret
  exact⟨rfl,HA.out⟩
 by_cases h3:0≤b
 rotate_left
 ·rw[As.measB_not (by omega)]
  go_enter Tryz.func133,Tryz.ntmps133
  go_wp2
  go_ret
  exact⟨rfl,HA.out⟩
 by_cases h4:b≤16777216
 rotate_left
 ·rw[As.measB_not (by omega)]
  go_enter Tryz.func133,Tryz.ntmps133
  go_wp2
  go_ret
  exact⟨rfl,HA.out⟩
 ·rw[As.measB_iff.2 ⟨h1,h2,h3,h4⟩]
  go_enter Tryz.func133,Tryz.ntmps133
  go_wp2
  go_ret
  exact⟨rfl,HA.out⟩
theorem ret_i {a b:Int}(h:a=b):Ending.returned (I O a) = .returned (I O b):=by rw[h]
theorem refmargin8_any (a b width:Int)(w:World)(hm:As.measB a b=true)(w0:0≤width)(w1:width≤200) :
  Calls Tryz.prog 163 #[.agg #[I O a,I O b],I O width] w fun e w' => e = .returned (.tuple #[I O (As.margin a b width),I O 0])∧Below w.heap.size w w' :=by
 obtain⟨a0,a1,b0,b1⟩:=As.measB_iff.1 hm;have HA:=mh (balloc mle (brf w.heap.size w) (.cells #[I O a,I O b] 63));have VL:=mh (fun (W:World)=>refvalid8_any a b W);rw[hm]at VL;have hp:=As.prod_bd b0 b1 w0 w1
 have EM:=mh (show As.margin a b width=min a ((b*width+99) / 100) from by
  unfold As.margin
  rw[(As.up_bd hp.1 (by omega)).2.2,Int.min_comm])
 obtain⟨X,eX⟩:∃X,b*width=X:=⟨_,rfl⟩;have hw:IntKind.i64.wrap (b*width)=X:=by rw[eX,IntKind.wrap_i64];omega
 have x1:X≤3355443200:=by omega
 have x0:0≤X:=by omega
 rw[eX]at EM;clear hp eX hm
 go_enter Tryz.func163,Tryz.ntmps163
 go_wp2_with (go_at_call 172;(with_reducible refine cmo (VL.out _) ?_);rintro e w1 ⟨rfl,hb1⟩;have HB1:=mh (bstep mle HA.out hb1);have C0:=mcell hb1 0;have C1:=mcell hb1 1;clear hb1)
 all_goals
  go_ret2
  exact⟨by rw[EM.out];first|rfl|exact congrArg (fun x=>Ending.returned (.tuple #[I O x,I O 0])) (by omega),HB1.out⟩
theorem refcheck8_any (c a b width:Int)(w:World)(hm:As.measB a b=true)(w0:0≤width)(w1:width≤200)(c0:0≤c)(c1:c≤268435456) :
  Calls Tryz.prog 150 #[I O c,.agg #[I O a,I O b],I O width] w fun e w' => e = .returned (.tuple #[I O (As.margin a b width),I O 0])∧Below w.heap.size w w' :=by
 have HA:=mh (balloc mle (brf w.heap.size w) (.cells #[I O a,I O b] 63));have MG:=mh (fun (W:World)=>refmargin8_any a b width W hm w0 w1);obtain⟨M,eM⟩:∃M,As.margin a b width=M:=⟨_,rfl⟩;rw[eM]at MG ⊢;clear eM hm
 go_enter Tryz.func150,Tryz.ntmps150
 go_wp2_with (go_at_call 163;(with_reducible refine cmo (MG.out _) ?_);rintro e w1 ⟨rfl,hb1⟩;have HB1:=mh (bstep mle HA.out hb1);clear hb1)
 go_ret2
 exact⟨rfl,HB1.out⟩
theorem refaccept8_any (c a b width:Int)(w:World)(hm:As.measB a b=true)(w0:0≤width)(w1:width≤200)(c0:0≤c)(c1:c≤268435456) :
  Calls Tryz.prog 134 #[I O c,.agg #[I O a,I O b],I O width] w fun e w' => e = .returned (.tuple #[I O (As.accept c a b width),I O 0])∧Below w.heap.size w w' :=by
 obtain⟨a0,a1,b0,b1⟩:=As.measB_iff.1 hm;have HA:=mh (balloc mle (brf w.heap.size w) (.cells #[I O a,I O b] 63));have CK:=mh (fun (W:World)=>refcheck8_any c a b width W hm w0 w1 c0 c1);obtain⟨M,eM⟩:∃M,As.margin a b width=M:=⟨_,rfl⟩;have EA:=mh (show As.accept c a b width=if max (c - a) (a - c)≤M then c else a from by unfold As.accept;rw[eM]);rw[eM]at CK;have hw1:IntKind.i64.wrap (c - a)=c - a:=by rw[IntKind.wrap_i64];omega
 have hw2:IntKind.i64.wrap (a - c)=a - c:=by rw[IntKind.wrap_i64];omega
 clear eM hm
 by_cases h1:c - a≤M
 rotate_left
 ·have EV:=mh (show As.accept c a b width=a from by rw[EA.out,if_neg (by omega)])
  go_enter Tryz.func134,Tryz.ntmps134
  go_wp2_with (go_at_call 150;(with_reducible refine cmo (CK.out _) ?_);rintro e w1 ⟨rfl,hb1⟩;have HB1:=mh (bstep mle HA.out hb1);have C0:=mcell hb1 0;clear hb1)
  go_ret2
  exact⟨by rw[EV.out];rfl,HB1.out⟩
 by_cases h2:a - c≤M
 rotate_left
 ·have EV:=mh (show As.accept c a b width=a from by rw[EA.out,if_neg (by omega)])
  go_enter Tryz.func134,Tryz.ntmps134
  go_wp2_with (go_at_call 150;(with_reducible refine cmo (CK.out _) ?_);rintro e w1 ⟨rfl,hb1⟩;have HB1:=mh (bstep mle HA.out hb1);have C0:=mcell hb1 0;clear hb1)
  go_ret2
  exact⟨by rw[EV.out];rfl,HB1.out⟩
 ·have EV:=mh (show As.accept c a b width=c from by rw[EA.out,if_pos (by omega)])
  go_enter Tryz.func134,Tryz.ntmps134
  go_wp2_with (go_at_call 150;(with_reducible refine cmo (CK.out _) ?_);rintro e w1 ⟨rfl,hb1⟩;have HB1:=mh (bstep mle HA.out hb1);have C0:=mcell hb1 0;clear hb1)
  go_ret2
  exact⟨by rw[EV.out];rfl,HB1.out⟩
theorem As.seenB_eq {k a b:Int}:As.seenB k a b=true↔0≤k∧k≤4∧As.measB a b=true∧(k=1∨(a=0∧b=0)):=by
 rw[As.seenB_iff,As.measB_iff]
 constructor
 ·rintro ⟨h1,h2,h3,h4⟩
  by_cases h:k=1
  ·exact⟨h1,h2,h3 h,.inl h⟩
  ·obtain⟨e1,e2⟩:=h4 h
   exact⟨h1,h2,by omega,.inr ⟨e1,e2⟩⟩
 ·rintro ⟨h1,h2,h3,h4⟩
  exact⟨h1,h2,fun _=>h3,fun h=>h4.resolve_left h⟩
theorem As.chk28_68 {f:As.Fct}{width:Int}(h:¬(0≤f.decl∧f.decl≤268435456∧0≤f.due∧f.due≤f.decl ∧ -1≤f.season∧f.season≤1∧0≤f.kind∧f.kind≤4∧As.measB f.area f.border=true∧(f.kind=1∨(f.area=0∧f.border=0)))):As.chk28 f width=68:=by
 unfold As.chk28;rw[if_pos];rw[← Bool.not_eq_true];intro hf;unfold As.factB at hf;simp only[Bool.and_eq_true,decide_eq_true_eq]at hf;obtain⟨h1,h2,h3,h4,h5,h6,h7⟩:=hf;obtain⟨k0,k1,k2,k3⟩:=As.seenB_eq.1 h7;exact h ⟨h1,h2,h3,h4,h5,h6,k0,k1,k2,k3⟩
theorem As.chk28_ok {f:As.Fct}{width:Int}(h:0≤f.decl∧f.decl≤268435456∧0≤f.due∧f.due≤f.decl ∧ -1≤f.season∧f.season≤1∧0≤f.kind∧f.kind≤4∧As.measB f.area f.border=true∧(f.kind=1∨(f.area=0∧f.border=0))):As.chk28 f width=if width<0∨200<width then 2 else 0:=by
 unfold As.chk28;obtain⟨h1,h2,h3,h4,h5,h6,k0,k1,k2,k3⟩:=h;have:As.factB f=true:=by
  unfold As.factB;simp only[Bool.and_eq_true,decide_eq_true_eq];exact⟨h1,h2,h3,h4,h5,h6,As.seenB_eq.2 ⟨k0,k1,k2,k3⟩⟩
 rw[this]
 rfl
theorem refcheck28_any (d u s k a b width:Int)(w:World):Calls Tryz.prog 111 #[.agg #[I O d,I O u,I O s,I O k,I O a,I O b],I O width] w fun e w' => e = .returned (I O (As.chk28 ⟨d,u,s,k,a,b⟩ width))∧Below w.heap.size w w' :=by
 have HA:=mh (balloc mle (brf w.heap.size w) (.cells #[I O d,I O u,I O s,I O k,I O a,I O b] 105));have MS:=mh (fun (W:World)=>measured27_any a b W);obtain⟨m,em⟩:∃m,As.measB a b=m:=⟨_,rfl⟩;rw[em]at MS
 rcases (show(d<0)∨(¬d<0∧268435456<d)∨(¬d<0∧¬268435456<d∧u<0)∨(¬d<0∧¬268435456<d∧¬u<0∧d<u)∨(¬d<0∧¬268435456<d∧¬u<0∧¬d<u∧s < -1) ∨
   (¬d<0∧¬268435456<d∧¬u<0∧¬d<u∧¬s < -1∧1<s)∨(¬d<0∧¬268435456<d∧¬u<0∧¬d<u∧¬s < -1∧¬1<s∧k<0)∨(¬d<0∧¬268435456<d∧¬u<0∧¬d<u∧¬s < -1∧¬1<s∧¬k<0∧4<k) ∨
   (¬d<0∧¬268435456<d∧¬u<0∧¬d<u∧¬s < -1∧¬1<s∧¬k<0∧¬4<k) by omega)
  with h1|⟨h1,h2⟩|⟨h1,h2,h3⟩|⟨h1,h2,h3,h4⟩|⟨h1,h2,h3,h4,h5⟩|⟨h1,h2,h3,h4,h5,h6⟩|⟨h1,h2,h3,h4,h5,h6,h7⟩|⟨h1,h2,h3,h4,h5,h6,h7,h8⟩|⟨h1,h2,h3,h4,h5,h6,h7,h8⟩
 case' inr.inr.inr.inr.inr.inr.inr.inr=>skip
 rotate_right
 rotate_left
 all_goals first
  | (rw[As.chk28_68 (f:=⟨d,u,s,k,a,b⟩) (by simp only;omega)]
     go_enter Tryz.func111,Tryz.ntmps111
     go_wp2
     go_ret
     exact⟨rfl,HA.out⟩)
  | skip
 cases m
 ·rw[As.chk28_68 (f:=⟨d,u,s,k,a,b⟩) (by simp only;rw[em];simp)]
  go_enter Tryz.func111,Tryz.ntmps111
  go_wp2_with (go_at_call 133;(with_reducible refine cmo (MS.out _) ?_);rintro e w1 ⟨rfl,hb1⟩;have HB1:=mh (bstep mle HA.out hb1);have C3:=mcell hb1 3;have C4:=mcell hb1 4;have C5:=mcell hb1 5;clear hb1)
  go_ret
  exact⟨rfl,HB1.out⟩
 by_cases hk:k=1
 ·subst hk
  rw[As.chk28_ok (f:=⟨d,u,s,1,a,b⟩) (by simp only;exact⟨by omega,by omega,by omega,by omega,by omega,by omega,by omega,by omega,em,.inl trivial⟩)]
  by_cases w0:width<0
  ·rw[if_pos (.inl w0)]
   go_enter Tryz.func111,Tryz.ntmps111
   go_wp2_with (go_at_call 133;(with_reducible refine cmo (MS.out _) ?_);rintro e w1 ⟨rfl,hb1⟩;have HB1:=mh (bstep mle HA.out hb1);have C3:=mcell hb1 3;have C4:=mcell hb1 4;have C5:=mcell hb1 5;clear hb1)
   go_ret
   exact⟨rfl,HB1.out⟩
  by_cases w1:200<width
  ·rw[if_pos (.inr w1)]
   go_enter Tryz.func111,Tryz.ntmps111
   go_wp2_with (go_at_call 133;(with_reducible refine cmo (MS.out _) ?_);rintro e w1 ⟨rfl,hb1⟩;have HB1:=mh (bstep mle HA.out hb1);have C3:=mcell hb1 3;have C4:=mcell hb1 4;have C5:=mcell hb1 5;clear hb1)
   go_ret
   exact⟨rfl,HB1.out⟩
  ·rw[if_neg (by omega)]
   go_enter Tryz.func111,Tryz.ntmps111
   go_wp2_with (go_at_call 133;(with_reducible refine cmo (MS.out _) ?_);rintro e w1 ⟨rfl,hb1⟩;have HB1:=mh (bstep mle HA.out hb1);have C3:=mcell hb1 3;have C4:=mcell hb1 4;have C5:=mcell hb1 5;clear hb1)
   go_ret
   exact⟨rfl,HB1.out⟩
 by_cases ha:a=0
 rotate_left
 ·rw[As.chk28_68 (f:=⟨d,u,s,k,a,b⟩) (by simp only;omega)]
  go_enter Tryz.func111,Tryz.ntmps111
  go_wp2_with (go_at_call 133;(with_reducible refine cmo (MS.out _) ?_);rintro e w1 ⟨rfl,hb1⟩;have HB1:=mh (bstep mle HA.out hb1);have C3:=mcell hb1 3;have C4:=mcell hb1 4;have C5:=mcell hb1 5;clear hb1)
  go_ret
  exact⟨rfl,HB1.out⟩
 subst ha
 by_cases hb:b=0
 rotate_left
 ·rw[As.chk28_68 (f:=⟨d,u,s,k,0,b⟩) (by simp only;omega)]
  go_enter Tryz.func111,Tryz.ntmps111
  go_wp2_with (go_at_call 133;(with_reducible refine cmo (MS.out _) ?_);rintro e w1 ⟨rfl,hb1⟩;have HB1:=mh (bstep mle HA.out hb1);have C3:=mcell hb1 3;have C4:=mcell hb1 4;have C5:=mcell hb1 5;clear hb1)
  go_ret
  exact⟨rfl,HB1.out⟩
 subst hb;rw[As.chk28_ok (f:=⟨d,u,s,k,0,0⟩) (by simp only;exact⟨by omega,by omega,by omega,by omega,by omega,by omega,by omega,by omega,em,.inr ⟨trivial,trivial⟩⟩)]
 by_cases w0:width<0
 ·rw[if_pos (.inl w0)]
  go_enter Tryz.func111,Tryz.ntmps111
  go_wp2_with (go_at_call 133;(with_reducible refine cmo (MS.out _) ?_);rintro e w1 ⟨rfl,hb1⟩;have HB1:=mh (bstep mle HA.out hb1);have C3:=mcell hb1 3;have C4:=mcell hb1 4;have C5:=mcell hb1 5;clear hb1)
  go_ret
  exact⟨rfl,HB1.out⟩
 by_cases w1:200<width
 ·rw[if_pos (.inr w1)]
  go_enter Tryz.func111,Tryz.ntmps111
  go_wp2_with (go_at_call 133;(with_reducible refine cmo (MS.out _) ?_);rintro e w1 ⟨rfl,hb1⟩;have HB1:=mh (bstep mle HA.out hb1);have C3:=mcell hb1 3;have C4:=mcell hb1 4;have C5:=mcell hb1 5;clear hb1)
  go_ret
  exact⟨rfl,HB1.out⟩
 ·rw[if_neg (by omega)]
  go_enter Tryz.func111,Tryz.ntmps111
  go_wp2_with (go_at_call 133;(with_reducible refine cmo (MS.out _) ?_);rintro e w1 ⟨rfl,hb1⟩;have HB1:=mh (bstep mle HA.out hb1);have C3:=mcell hb1 3;have C4:=mcell hb1 4;have C5:=mcell hb1 5;clear hb1)
  go_ret
  exact⟨rfl,HB1.out⟩
namespace Wo
open Go.Lib
/-! ### names -/
def letB (c:UInt8):Bool:=decide (97≤(c.toNat:Int))&&decide ((c.toNat:Int)≤122)
def digB (c:UInt8):Bool:=decide (48≤(c.toNat:Int))&&decide ((c.toNat:Int)≤57)
def headB:List UInt8→Bool
 | []=>true
 | c::r=>letB c&&r.all fun c=>letB c||digB c
def nameB (l:List UInt8):Bool:=headB l&&(decide (1≤l.length)&&decide (l.length≤12))
theorem headB_snoc (l:List UInt8)(c:UInt8):headB (l ++ [c])=(headB l&&(letB c||(!l.isEmpty&&digB c))):=by
 cases l with
 | nil=>simp[headB]
 | cons a l=>simp[headB,Bool.and_assoc]
theorem headB_prefix {l m:List UInt8}(h:headB (l++m)=true):headB l=true:=by
 cases l with
 | nil=>rfl
 | cons a l =>
   simp only[List.cons_append,headB,Bool.and_eq_true,List.all_append]at h ⊢;exact⟨h.1,h.2.1⟩
theorem take_snoc_bytes (s:ByteArray)(k:Nat)(h:k<s.size):s.data.toList.take (k+1)=s.data.toList.take k ++ [s[k]]:=by
 rw[tsg (by simpa using h)];rfl
/-! ### decimal texts -/
theorem dig_toNat (d:Nat)(h:d<10):(UInt8.ofNat (48+d)).toNat=48+d:=by
 have:(48+d) % 256=48+d:=Nat.mod_eq_of_lt (by omega)
 simpa using this
def dch (d:Nat):UInt8:=UInt8.ofNat (48+d)
theorem parseUint10_snoc (l:List UInt8)(c:UInt8):∀acc,parseUint10 acc (l ++ [c])=match parseUint10 acc l with
  | .ok u=>parseUint10 u [c]
  | e=>e:=by
 induction l with
 | nil=>intro acc;simp[parseUint10]
 | cons a l ih =>
   intro acc;simp only[List.cons_append,parseUint10]
   split
   ·split
    ·rfl
    ·split
     ·rfl
     ·exact ih _
   ·rfl
theorem decDigits_ne (u:Nat):decDigits u ≠ []:=by
 intro e;have:=decDigits_length u;rw[e]at this;have:=nDigits_pos u
 simp at *
 omega
theorem parse_dec (u:Nat)(h:u<18446744073709551616):parseUint10 0 (decDigits u) = .ok u:=by
 induction u using Nat.strongRecOn with
 | _ u ih =>
   by_cases h1:u<10
   ·rw[decDigits,dif_pos h1]
    simp only[parseUint10,dig_toNat u h1];rw[if_pos (by omega),if_neg (by omega),if_neg (by omega)]
    congr 1;omega
   ·rw[decDigits,dif_neg h1,parseUint10_snoc,ih (u / 10) (by omega) (by omega)]
    simp only[parseUint10,dig_toNat (u % 10) (by omega)];rw[if_pos (by omega),if_neg (by omega),if_neg (by omega)]
    congr 1;omega
theorem decDigits_first (u:Nat):∃c r,decDigits u=c::r∧48≤c.toNat∧c.toNat≤57:=by
 induction u using Nat.strongRecOn with
 | _ u ih =>
   by_cases h1:u<10
   ·rw[decDigits,dif_pos h1]
    exact⟨_,_,rfl,by rw[dig_toNat u h1];omega,by rw[dig_toNat u h1];omega⟩
   ·rw[decDigits,dif_neg h1]
    obtain⟨c,r,e,h2,h3⟩:=ih (u / 10) (by omega);exact⟨c,_,by rw[e];rfl,h2,h3⟩
theorem atoi_itoa (n:Int)(h0 : -9223372036854775808≤n)(h1:n≤9223372036854775807):atoiAll (itoa n) = .ok n:=by
 unfold itoa
 split
 ·rw[atoiAll_minus,parseMag,if_neg (decDigits_ne _),parse_dec _ (by omega)]
  simp only[signed];rw[if_neg (by omega)]
  congr 1;omega
 ·obtain⟨c,r,e,h2,h3⟩:=decDigits_first n.toNat
  have hp:=parse_dec n.toNat (by omega);rw[e]at hp ⊢;rw[atoiAll_plain c r (by omega) (by omega),parseMag,if_neg (by simp),hp];simp only[signless];rw[if_neg (by omega)]
  congr 1;omega
def numO (l:List UInt8):Option Int :=
 match atoiAll l with
 | .ok v=>if itoa v=l then some v else none
 | _=>none
theorem numO_itoa (n:Int)(h0 : -9223372036854775808≤n)(h1:n≤9223372036854775807):numO (itoa n)=some n:=by
 unfold numO;rw[atoi_itoa n h0 h1];simp
theorem numO_some {l:List UInt8}{v:Int}(h:numO l=some v):itoa v=l ∧ -9223372036854775808≤v∧v≤9223372036854775807:=by
 unfold numO at h
 split at h
 ·next w hw =>
  split at h
  ·cases h
   exact⟨by assumption,atoiAll_bounds hw⟩
  ·cases h
 ·cases h
def numV (l:List UInt8) (least most:Int):Int:=match numO l with|some v=>if v<least∨most<v then 0 else v|none=>0
def numB (l:List UInt8) (least most:Int):Bool:=match numO l with|some v=>if v<least∨most<v then false else true|none=>false
/-! ### the same by steps -/
theorem nDigits_le19 (u:Nat)(h:u<10000000000000000000):nDigits u≤19:=by
 apply Nat.le_of_not_lt
 intro hk;have:∀(k u:Nat),k+1<nDigits u→10 ^ (k+1)≤u:=by
  intro k
  induction k with
  | zero =>
    intro u hu
    by_cases h1:u<10
    ·rw[nDigits_small h1]at hu;omega
    ·omega
  | succ k ih =>
    intro u hu
    by_cases h1:u<10
    ·rw[nDigits_small h1]at hu;omega
    ·rw[nDigits_big h1]at hu
     have:=ih (u / 10) (by omega);rw[Nat.pow_succ];omega
 have:=this 18 u hk;omega
theorem itoa_len20 (n:Int)(h0 : -9223372036854775808≤n)(h1:n≤9223372036854775807):1≤(itoa n).length∧(itoa n).length≤20:=by
 unfold itoa
 split
 ·rw[List.length_cons,decDigits_length]
  have:=nDigits_le19 n.natAbs (by omega);omega
 ·rw[decDigits_length]
  have:=nDigits_le19 n.toNat (by omega);have:=nDigits_pos n.toNat;omega
end Wo
namespace Te
open Go.Lib
inductive Tm where
 | mk (op num more:Int) (kids:List Tm)
def Tm.op:Tm→Int | .mk o _ _ _=>o
def Tm.num:Tm→Int | .mk _ n _ _=>n
def Tm.more:Tm→Int | .mk _ _ m _=>m
def Tm.kids:Tm→List Tm | .mk _ _ _ K=>K
mutual
def count:Tm→Nat
 | .mk _ _ _ K=>1+countL K
def countL:List Tm→Nat
 | []=>0
 | k::r=>count k+countL r
end
mutual
def depth:Tm→Nat
 | .mk _ _ _ K=>depthL K+1
def depthL:List Tm→Nat
 | []=>0
 | k::r=>max (depth k) (depthL r)
end
def single (n:Int):Bool:=n==1||n==2||n==4||n==8||n==16
def selfB (o n m:Int) (k:Nat):Bool :=
 if o=1 then n==0&&m==0&&k==0
 else if o=2 then decide (0≤n)&&decide (n≤39)&&m==0&&k==0
 else if o=3 then decide (0≤n)&&decide (n≤40)&&m==0&&k==0
 else if o=4 then single n&&m==0&&k==0
 else if o=5 then decide (0≤n)&&decide (n≤15)&&m==0&&k==0
 else if o=6 then decide (2≤n)&&decide (n≤10)&&m==0&&k==0
 else if o=7 then decide (1≤n)&&decide (n≤10)&&single m&&k==0
 else if o=8 then decide (1≤n)&&decide (n≤10)&&m==0&&k==0
 else if o=9∨o=10 then n==0&&m==0&&decide (1≤k)
 else if o=11 then n==0&&m==0&&k==1
 else false
mutual
def form:Tm→Bool
 | .mk o n m K=>selfB o n m K.length&&formL K
def formL:List Tm→Bool
 | []=>true
 | k::r=>form k&&formL r
end
def chkT (t:Tm):Int:=if 40<count t then 1 else if 8<depth t∨form t=false then 16 else 0
theorem countL_mem {K:List Tm}{k:Tm}(h:k∈K):count k≤countL K:=by
 induction K with
 | nil=>cases h
 | cons a r ih =>
   rw[countL]
   rcases List.mem_cons.1 h with rfl|h
   ·omega
   ·have:=ih h;omega
theorem formL_iff {K:List Tm}:formL K=true↔∀k∈K,form k=true:=by
 induction K with
 | nil=>simp[formL]
 | cons a r ih=>rw[formL,Bool.and_eq_true,ih];simp
/-! ### words -/
/-! ### what was written is read -/
end Te
end Go.Proofs.YtljibgchickcpaaGreatDoor
