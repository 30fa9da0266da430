/-
  Lemmas that the theorem openingDormers_upto_card needs (part 1 of 8).
-/
import Derived.Shelf.Strings.Trim
import Derived.Shelf.LaysM
import Derived.Shelf.Strconv.Itoa3
import Derived.Shelf.LaysC
import Derived.Shelf.Strconv.AtoiAll
import Derived.Shelf.Strings.Prefix
import Derived.Shelf.Strings.SlTrimAscii
import Derived.Shelf.Small.Wraps
import Derived.Test.YtlnjmcchddbogaaGreatDoorProg
import Derived.Lib.ItoaNum
import Derived.Lib.AtoiAll
import Derived.Lib.SlTrimSet
import Derived.Lib.Strings
import Derived.WalkKit
import Derived.TacticsIn
import Derived.CallsIn
import Derived.KernelRfl
import Derived.Below
import Derived.RangeFuncCalls
import Derived.RangeFuncLeaves
import Derived.OrdersIn
import Derived.Sort.LoopGhostIn
import Derived.RangeFuncOne
set_option maxHeartbeats 64000000
theorem Go.Proofs.I.{u} {α:Sort u} {a:α}:a=a:=rfl
theorem Go.Proofs.tO:True:=trivial
theorem Go.Proofs.fTr {α:Type} {x:Option α} {a b:α} (h:x=some a) (e:a=b):x=some b:=h.trans (congrArg some e)
theorem Go.Proofs.dT {p:Prop} [Decidable p] (h:p):decide p=true:=decide_eq_true h
theorem Go.Proofs.dF {p:Prop} [Decidable p] (h: ¬p):decide p=false:=decide_eq_false h
namespace Go.Proofs
open Go.Shelf
def Tryz.lays160_ren:Go.Shelf.Ren:=⟨fun|160=>262|232=>307|231=>306|227=>308|234=>310|233=>309|236=>312|235=>311|228=>340|271=>343|151=>342|197=>341|120=>370|152=>369|260=>368|137=>381|119=>382|224=>366|225=>365|217=>364|266=>379|n=>n,fun|9=>9|4=>4|3=>3|5=>5|117=>333|116=>332|0=>0|124=>336|21=>21|105=>364|46=>343|119=>404|139=>407|138=>406|n=>n,fun|3=>7|4=>8|n=>n⟩
theorem Tryz.lays160:Go.Proofs.Lays.n160 Tryz.prog Tryz.lays160_ren:= {
 mixed:=by kernel_rfl
 f119:=fTr Tryz.func382 (by kernel_rfl)
 f120:=fTr Tryz.func370 (by kernel_rfl)
 f137:=fTr Tryz.func381 (by kernel_rfl)
 f151:=fTr Tryz.func342 (by kernel_rfl)
 f152:=fTr Tryz.func369 (by kernel_rfl)
 f160:=fTr Tryz.func262 (by kernel_rfl)
 f197:=fTr Tryz.func341 (by kernel_rfl)
 f217:=fTr Tryz.func364 (by kernel_rfl)
 f224:=fTr Tryz.func366 (by kernel_rfl)
 f225:=fTr Tryz.func365 (by kernel_rfl)
 f227:=fTr Tryz.func308 (by kernel_rfl)
 f228:=fTr Tryz.func340 (by kernel_rfl)
 f231:=fTr Tryz.func306 (by kernel_rfl)
 f232:=fTr Tryz.func307 (by kernel_rfl)
 f233:=fTr Tryz.func309 (by kernel_rfl)
 f234:=fTr Tryz.func310 (by kernel_rfl)
 f235:=fTr Tryz.func311 (by kernel_rfl)
 f236:=fTr Tryz.func312 (by kernel_rfl)
 f260:=fTr Tryz.func368 (by kernel_rfl)
 f266:=fTr Tryz.func379 (by kernel_rfl)
 f271:=fTr Tryz.func343 (by kernel_rfl)
 t0:=Tryz.underlying0
 a0:=Tryz.isAgg0
 z0:=Tryz.sizeOf0
 v0:=Tryz.zeroValue0
 t3:=Tryz.underlying3
 a3:=Tryz.isAgg3
 z3:=Tryz.sizeOf3
 v3:=Tryz.zeroValue3
 t4:=Tryz.underlying4
 a4:=Tryz.isAgg4
 z4:=Tryz.sizeOf4
 v4:=Tryz.zeroValue4
 t5:=Tryz.underlying5
 a5:=Tryz.isAgg5
 z5:=Tryz.sizeOf5
 v5:=Tryz.zeroValue5
 t9:=Tryz.underlying9
 a9:=Tryz.isAgg9
 z9:=Tryz.sizeOf9
 v9:=Tryz.zeroValue9
 t21:=Tryz.underlying21
 a21:=Tryz.isAgg21
 z21:=Tryz.sizeOf21
 v21:=Tryz.zeroValue21
 t46:=Tryz.underlying343
 a46:=Tryz.isAgg343
 z46:=Tryz.sizeOf343
 v46:=Tryz.zeroValue343
 t105:=Tryz.underlying364
 a105:=Tryz.isAgg364
 z105:=Tryz.sizeOf364
 v105:=Tryz.zeroValue364
 t116:=Tryz.underlying332
 a116:=Tryz.isAgg332
 z116:=Tryz.sizeOf332
 t117:=Tryz.underlying333
 a117:=Tryz.isAgg333
 z117:=Tryz.sizeOf333
 v117:=Tryz.zeroValue333
 t119:=Tryz.underlying404
 a119:=Tryz.isAgg404
 z119:=Tryz.sizeOf404
 t124:=Tryz.underlying336
 a124:=Tryz.isAgg336
 z124:=Tryz.sizeOf336
 v124:=Tryz.zeroValue336
 t138:=Tryz.underlying406
 a138:=Tryz.isAgg406
 z138:=Tryz.sizeOf406
 v138:=Tryz.zeroValue406
 t139:=Tryz.underlying407
 a139:=Tryz.isAgg407
 z139:=Tryz.sizeOf407
 v139:=Tryz.zeroValue407
 g3:=by kernel_rfl
 g4:=by kernel_rfl }
def Tryz.lays103_ren:Go.Shelf.Ren:=⟨fun|103=>185|210=>256|206=>184|n=>n,fun|9=>9|4=>4|24=>216|3=>3|n=>n,fun|n=>n⟩
theorem Tryz.lays103:Go.Proofs.Lays.n103 Tryz.prog Tryz.lays103_ren:= {
 mixed:=by kernel_rfl
 f103:=fTr Tryz.func185 (by kernel_rfl)
 f206:=fTr Tryz.func184 (by kernel_rfl)
 f210:=fTr Tryz.func256 (by kernel_rfl)
 t3:=Tryz.underlying3
 a3:=Tryz.isAgg3
 z3:=Tryz.sizeOf3
 v3:=Tryz.zeroValue3
 t4:=Tryz.underlying4
 a4:=Tryz.isAgg4
 z4:=Tryz.sizeOf4
 v4:=Tryz.zeroValue4
 t9:=Tryz.underlying9
 a9:=Tryz.isAgg9
 z9:=Tryz.sizeOf9
 v9:=Tryz.zeroValue9
 t24:=Tryz.underlying216
 a24:=Tryz.isAgg216
 z24:=Tryz.sizeOf216
 v24:=Tryz.zeroValue216 }
open Go.RowKit in
theorem Tryz.strings_CutPrefix (s p:ByteArray) (w:World):
  Calls Tryz.prog 185 #[.string s, .string p] w fun e w'=>e= .returned (.tuple #[.string ⟨(Lib.trimPrefix s.data.toList p.data.toList).toArray⟩, .bool (Lib.hasPrefix s.data.toList p.data.toList)])/\w'=w:=Any.strings_CutPrefix Tryz.lays103 s p w
def Tryz.lays122_ren:Go.Shelf.Ren:=⟨fun|122=>114|215=>179|n=>n,fun|3=>3|4=>4|n=>n,fun|n=>n⟩
theorem Tryz.lays122:Go.Proofs.Lays.n122 Tryz.prog Tryz.lays122_ren:= {
 mixed:=by kernel_rfl
 f122:=fTr Tryz.func114 (by kernel_rfl)
 f215:=fTr Tryz.func179 (by kernel_rfl)
 t3:=Tryz.underlying3
 a3:=Tryz.isAgg3
 z3:=Tryz.sizeOf3
 v3:=Tryz.zeroValue3
 t4:=Tryz.underlying4
 a4:=Tryz.isAgg4
 z4:=Tryz.sizeOf4
 v4:=Tryz.zeroValue4 }
open Go.RowKit in
theorem Tryz.cmp_Compare_int (x y:Int) (w:World):
  Calls Tryz.prog 114 #[.int .i64 x, .int .i64 y] w fun e w'=>e= .returned (.int .i64 (Lib.compareInt x y))/\w'=w:=Any.cmp_Compare_int Tryz.lays122 x y w
def Tryz.laysM171_ren:Go.Shelf.Ren:=⟨fun|171=>95|243=>154|246=>231|283=>295|284=>296|285=>297|286=>298|129=>334|317=>333|318=>335|319=>336|320=>337|337=>361|338=>362|n=>n,fun|3=>3|9=>9|2=>2|4=>4|171=>320|0=>0|53=>321|37=>285|5=>5|173=>324|212=>356|51=>357|20=>20|213=>358|46=>343|232=>401|233=>402|n=>n,fun|17=>1|18=>5|19=>6|n=>n⟩
theorem Tryz.laysM171:Go.Proofs.LaysM.n171 Tryz.prog Tryz.laysM171_ren:= {
 mixed:=by kernel_rfl
 f129:=fTr Tryz.func334 (by kernel_rfl)
 f171:=fTr Tryz.func95 (by kernel_rfl)
 f243:=fTr Tryz.func154 (by kernel_rfl)
 f246:=fTr Tryz.func231 (by kernel_rfl)
 f283:=fTr Tryz.func295 (by kernel_rfl)
 f284:=fTr Tryz.func296 (by kernel_rfl)
 f285:=fTr Tryz.func297 (by kernel_rfl)
 f286:=fTr Tryz.func298 (by kernel_rfl)
 f317:=fTr Tryz.func333 (by kernel_rfl)
 f318:=fTr Tryz.func335 (by kernel_rfl)
 f319:=fTr Tryz.func336 (by kernel_rfl)
 f320:=fTr Tryz.func337 (by kernel_rfl)
 f337:=fTr Tryz.func361 (by kernel_rfl)
 f338:=fTr Tryz.func362 (by kernel_rfl)
 t0:=Tryz.underlying0
 a0:=Tryz.isAgg0
 z0:=Tryz.sizeOf0
 v0:=Tryz.zeroValue0
 t2:=Tryz.underlying2
 a2:=Tryz.isAgg2
 z2:=Tryz.sizeOf2
 v2:=Tryz.zeroValue2
 t3:=Tryz.underlying3
 a3:=Tryz.isAgg3
 z3:=Tryz.sizeOf3
 v3:=Tryz.zeroValue3
 t4:=Tryz.underlying4
 a4:=Tryz.isAgg4
 z4:=Tryz.sizeOf4
 v4:=Tryz.zeroValue4
 t5:=Tryz.underlying5
 a5:=Tryz.isAgg5
 z5:=Tryz.sizeOf5
 v5:=Tryz.zeroValue5
 t9:=Tryz.underlying9
 a9:=Tryz.isAgg9
 z9:=Tryz.sizeOf9
 v9:=Tryz.zeroValue9
 t20:=Tryz.underlying20
 a20:=Tryz.isAgg20
 z20:=Tryz.sizeOf20
 v20:=Tryz.zeroValue20
 t37:=Tryz.underlying285
 a37:=Tryz.isAgg285
 z37:=Tryz.sizeOf285
 v37:=Tryz.zeroValue285
 t46:=Tryz.underlying343
 a46:=Tryz.isAgg343
 z46:=Tryz.sizeOf343
 v46:=Tryz.zeroValue343
 t51:=Tryz.underlying357
 a51:=Tryz.isAgg357
 z51:=Tryz.sizeOf357
 v51:=Tryz.zeroValue357
 t53:=Tryz.underlying321
 a53:=Tryz.isAgg321
 z53:=Tryz.sizeOf321
 v53:=Tryz.zeroValue321
 t171:=Tryz.underlying320
 a171:=Tryz.isAgg320
 z171:=Tryz.sizeOf320
 v171:=Tryz.zeroValue320
 t173:=Tryz.underlying324
 a173:=Tryz.isAgg324
 z173:=Tryz.sizeOf324
 v173:=Tryz.zeroValue324
 t212:=Tryz.underlying356
 a212:=Tryz.isAgg356
 z212:=Tryz.sizeOf356
 v212:=Tryz.zeroValue356
 t213:=Tryz.underlying358
 a213:=Tryz.isAgg358
 z213:=Tryz.sizeOf358
 t232:=Tryz.underlying401
 a232:=Tryz.isAgg401
 z232:=Tryz.sizeOf401
 v232:=Tryz.zeroValue401
 t233:=Tryz.underlying402
 a233:=Tryz.isAgg402
 z233:=Tryz.sizeOf402
 v233:=Tryz.zeroValue402
 g17:=by kernel_rfl
 g18:=by kernel_rfl
 g19:=by kernel_rfl
 i0:=by kernel_rfl
 i2:=by kernel_rfl
 i3:=by kernel_rfl
 i4:=by kernel_rfl
 i5:=by kernel_rfl
 i9:=by kernel_rfl
 i20:=by kernel_rfl
 i37:=by kernel_rfl
 i46:=by kernel_rfl
 i51:=by kernel_rfl
 i53:=by kernel_rfl
 i171:=by kernel_rfl
 i173:=by kernel_rfl
 i212:=by kernel_rfl
 i232:=by kernel_rfl
 i233:=by kernel_rfl
 m17:=by kernel_rfl
 m18:=by kernel_rfl
 m19:=by kernel_rfl }
open Go.RowKit Go.Sort Go.Lib in
theorem Tryz.strconv_Itoa (n : Int) (h0 : -9223372036854775808 <= n) (h1 : n <= 9223372036854775807) (w : World) (htab : Lib.TabIs Tryz.prog w "internal/strconv.uint64pow10" .u64 Lib.pow10Tab) :
  Calls Tryz.prog 95 #[.int .i64 n] w fun e w'=>e= .returned (.string ⟨(Lib.itoa n).toArray⟩)/\ ∃k os,w'=grow (w.drewN k) os:=Any.strconv_Itoa Tryz.laysM171 n h0 h1 w htab
def Tryz.laysC172_ren:Go.Shelf.Ren:=⟨fun|172=>191|244=>263|245=>264|247=>313|279=>314|280=>315|281=>316|282=>317|287=>344|316=>345|171=>95|205=>346|321=>371|322=>372|243=>154|246=>231|283=>295|284=>296|285=>297|286=>298|129=>334|317=>333|318=>335|319=>336|320=>337|337=>361|338=>362|n=>n,fun|9=>9|3=>3|75=>222|76=>223|4=>4|5=>5|167=>337|37=>285|0=>0|85=>338|2=>2|168=>340|53=>321|175=>367|46=>343|210=>370|127=>348|145=>393|143=>391|21=>21|171=>320|173=>324|212=>356|51=>357|20=>20|213=>358|232=>401|233=>402|80=>301|n=>n,fun|15=>2|16=>3|17=>1|18=>5|19=>6|n=>n⟩
theorem Tryz.laysC172:Go.Proofs.LaysC.n172 Tryz.prog Tryz.laysC172_ren:= {
 mixed:=by kernel_rfl
 f129:=fTr Tryz.func334 (by kernel_rfl)
 f171:=fTr Tryz.func95 (by kernel_rfl)
 f172:=fTr Tryz.func191 (by kernel_rfl)
 f205:=fTr Tryz.func346 (by kernel_rfl)
 f243:=fTr Tryz.func154 (by kernel_rfl)
 f244:=fTr Tryz.func263 (by kernel_rfl)
 f245:=fTr Tryz.func264 (by kernel_rfl)
 f246:=fTr Tryz.func231 (by kernel_rfl)
 f247:=fTr Tryz.func313 (by kernel_rfl)
 f279:=fTr Tryz.func314 (by kernel_rfl)
 f280:=fTr Tryz.func315 (by kernel_rfl)
 f281:=fTr Tryz.func316 (by kernel_rfl)
 f282:=fTr Tryz.func317 (by kernel_rfl)
 f283:=fTr Tryz.func295 (by kernel_rfl)
 f284:=fTr Tryz.func296 (by kernel_rfl)
 f285:=fTr Tryz.func297 (by kernel_rfl)
 f286:=fTr Tryz.func298 (by kernel_rfl)
 f287:=fTr Tryz.func344 (by kernel_rfl)
 f316:=fTr Tryz.func345 (by kernel_rfl)
 f317:=fTr Tryz.func333 (by kernel_rfl)
 f318:=fTr Tryz.func335 (by kernel_rfl)
 f319:=fTr Tryz.func336 (by kernel_rfl)
 f320:=fTr Tryz.func337 (by kernel_rfl)
 f321:=fTr Tryz.func371 (by kernel_rfl)
 f322:=fTr Tryz.func372 (by kernel_rfl)
 f337:=fTr Tryz.func361 (by kernel_rfl)
 f338:=fTr Tryz.func362 (by kernel_rfl)
 t0:=Tryz.underlying0
 a0:=Tryz.isAgg0
 z0:=Tryz.sizeOf0
 v0:=Tryz.zeroValue0
 t2:=Tryz.underlying2
 a2:=Tryz.isAgg2
 z2:=Tryz.sizeOf2
 v2:=Tryz.zeroValue2
 t3:=Tryz.underlying3
 a3:=Tryz.isAgg3
 z3:=Tryz.sizeOf3
 v3:=Tryz.zeroValue3
 t4:=Tryz.underlying4
 a4:=Tryz.isAgg4
 z4:=Tryz.sizeOf4
 v4:=Tryz.zeroValue4
 t5:=Tryz.underlying5
 a5:=Tryz.isAgg5
 z5:=Tryz.sizeOf5
 v5:=Tryz.zeroValue5
 t9:=Tryz.underlying9
 a9:=Tryz.isAgg9
 z9:=Tryz.sizeOf9
 v9:=Tryz.zeroValue9
 t20:=Tryz.underlying20
 a20:=Tryz.isAgg20
 z20:=Tryz.sizeOf20
 v20:=Tryz.zeroValue20
 t21:=Tryz.underlying21
 a21:=Tryz.isAgg21
 z21:=Tryz.sizeOf21
 v21:=Tryz.zeroValue21
 t37:=Tryz.underlying285
 a37:=Tryz.isAgg285
 z37:=Tryz.sizeOf285
 v37:=Tryz.zeroValue285
 t46:=Tryz.underlying343
 a46:=Tryz.isAgg343
 z46:=Tryz.sizeOf343
 v46:=Tryz.zeroValue343
 t51:=Tryz.underlying357
 a51:=Tryz.isAgg357
 z51:=Tryz.sizeOf357
 v51:=Tryz.zeroValue357
 t53:=Tryz.underlying321
 a53:=Tryz.isAgg321
 z53:=Tryz.sizeOf321
 v53:=Tryz.zeroValue321
 t75:=Tryz.underlying222
 a75:=Tryz.isAgg222
 z75:=Tryz.sizeOf222
 v75:=Tryz.zeroValue222
 t76:=Tryz.underlying223
 a76:=Tryz.isAgg223
 z76:=Tryz.sizeOf223
 v76:=Tryz.zeroValue223
 t85:=Tryz.underlying338
 a85:=Tryz.isAgg338
 z85:=Tryz.sizeOf338
 v85:=Tryz.zeroValue338
 t127:=Tryz.underlying348
 a127:=Tryz.isAgg348
 z127:=Tryz.sizeOf348
 v127:=Tryz.zeroValue348
 t143:=Tryz.underlying391
 a143:=Tryz.isAgg391
 z143:=Tryz.sizeOf391
 v143:=Tryz.zeroValue391
 t145:=Tryz.underlying393
 a145:=Tryz.isAgg393
 z145:=Tryz.sizeOf393
 v145:=Tryz.zeroValue393
 t167:=Tryz.underlying337
 a167:=Tryz.isAgg337
 z167:=Tryz.sizeOf337
 v167:=Tryz.zeroValue337
 t168:=Tryz.underlying340
 a168:=Tryz.isAgg340
 z168:=Tryz.sizeOf340
 v168:=Tryz.zeroValue340
 t171:=Tryz.underlying320
 a171:=Tryz.isAgg320
 z171:=Tryz.sizeOf320
 v171:=Tryz.zeroValue320
 t173:=Tryz.underlying324
 a173:=Tryz.isAgg324
 z173:=Tryz.sizeOf324
 v173:=Tryz.zeroValue324
 t175:=Tryz.underlying367
 a175:=Tryz.isAgg367
 z175:=Tryz.sizeOf367
 v175:=Tryz.zeroValue367
 t210:=Tryz.underlying370
 a210:=Tryz.isAgg370
 z210:=Tryz.sizeOf370
 v210:=Tryz.zeroValue370
 t212:=Tryz.underlying356
 a212:=Tryz.isAgg356
 z212:=Tryz.sizeOf356
 v212:=Tryz.zeroValue356
 t213:=Tryz.underlying358
 a213:=Tryz.isAgg358
 z213:=Tryz.sizeOf358
 t232:=Tryz.underlying401
 a232:=Tryz.isAgg401
 z232:=Tryz.sizeOf401
 v232:=Tryz.zeroValue401
 t233:=Tryz.underlying402
 a233:=Tryz.isAgg402
 z233:=Tryz.sizeOf402
 v233:=Tryz.zeroValue402
 g15:=by kernel_rfl
 g16:=by kernel_rfl
 g17:=by kernel_rfl
 g18:=by kernel_rfl
 g19:=by kernel_rfl
 t80:=Tryz.underlying301
 a80:=Tryz.isAgg301
 z80:=Tryz.sizeOf301
 v80:=Tryz.zeroValue301
 i0:=by kernel_rfl
 i2:=by kernel_rfl
 i3:=by kernel_rfl
 i4:=by kernel_rfl
 i5:=by kernel_rfl
 i9:=by kernel_rfl
 i20:=by kernel_rfl
 i21:=by kernel_rfl
 i37:=by kernel_rfl
 i46:=by kernel_rfl
 i51:=by kernel_rfl
 i53:=by kernel_rfl
 i75:=by kernel_rfl
 i76:=by kernel_rfl
 i80:=by kernel_rfl
 i85:=by kernel_rfl
 i127:=by kernel_rfl
 i143:=by kernel_rfl
 i145:=by kernel_rfl
 i167:=by kernel_rfl
 i168:=by kernel_rfl
 i171:=by kernel_rfl
 i173:=by kernel_rfl
 i175:=by kernel_rfl
 i210:=by kernel_rfl
 i212:=by kernel_rfl
 i232:=by kernel_rfl
 i233:=by kernel_rfl
 m15:=by kernel_rfl
 m16:=by kernel_rfl
 m17:=by kernel_rfl
 m18:=by kernel_rfl
 m19:=by kernel_rfl
 c0:=by kernel_rfl
 c2:=by kernel_rfl
 c3:=by kernel_rfl
 c4:=by kernel_rfl
 c5:=by kernel_rfl
 c9:=by kernel_rfl
 c20:=by kernel_rfl
 c21:=by kernel_rfl
 c37:=by kernel_rfl
 c46:=by kernel_rfl
 c51:=by kernel_rfl
 c53:=by kernel_rfl
 c75:=by kernel_rfl
 c76:=by kernel_rfl
 c80:=by kernel_rfl
 c85:=by kernel_rfl
 c127:=by kernel_rfl
 c143:=by kernel_rfl
 c145:=by kernel_rfl
 c167:=by kernel_rfl
 c168:=by kernel_rfl
 c171:=by kernel_rfl
 c173:=by kernel_rfl
 c175:=by kernel_rfl
 c210:=by kernel_rfl
 c212:=by kernel_rfl
 c213:=by kernel_rfl
 c232:=by kernel_rfl
 c233:=by kernel_rfl }
open Go.RowKit in
theorem Tryz.strconv_Atoi_ok (s:ByteArray) (hmax:s.size<=9223372036854775806) (v:Int) (h:Lib.atoiAll s.data.toList= .ok v) (w:World):
  Calls Tryz.prog 191 #[.string s] w fun e w'=>e= .returned (.tuple #[.int .i64 v, .nilIface])/\(w'=w\/ ∃t,w'=Lib.bytesWorld w 5 t):=Any.strconv_Atoi_ok Tryz.laysC172 s hmax v h w
def Tryz.lays99_ren:Go.Shelf.Ren:=⟨fun|99=>124|206=>184|n=>n,fun|9=>9|4=>4|3=>3|n=>n,fun|n=>n⟩
theorem Tryz.lays99:Go.Proofs.Lays.n99 Tryz.prog Tryz.lays99_ren:= {
 mixed:=by kernel_rfl
 f99:=fTr Tryz.func124 (by kernel_rfl)
 f206:=fTr Tryz.func184 (by kernel_rfl)
 t3:=Tryz.underlying3
 a3:=Tryz.isAgg3
 z3:=Tryz.sizeOf3
 v3:=Tryz.zeroValue3
 t4:=Tryz.underlying4
 a4:=Tryz.isAgg4
 z4:=Tryz.sizeOf4
 v4:=Tryz.zeroValue4
 t9:=Tryz.underlying9
 a9:=Tryz.isAgg9
 z9:=Tryz.sizeOf9
 v9:=Tryz.zeroValue9 }
open Go.RowKit Go.Lib in
theorem Tryz.strings_HasPrefix (s p:ByteArray) (w:World):
  Calls Tryz.prog 124 #[.string s, .string p] w fun e w'=>e= .returned (.bool (Lib.hasPrefix s.data.toList p.data.toList))/\w'=w:=Any.strings_HasPrefix Tryz.lays99 s p w
def Tryz.lays101_ren:Go.Shelf.Ren:=⟨fun|101=>153|208=>230|206=>184|n=>n,fun|9=>9|4=>4|3=>3|n=>n,fun|n=>n⟩
theorem Tryz.lays101:Go.Proofs.Lays.n101 Tryz.prog Tryz.lays101_ren:= {
 mixed:=by kernel_rfl
 f101:=fTr Tryz.func153 (by kernel_rfl)
 f206:=fTr Tryz.func184 (by kernel_rfl)
 f208:=fTr Tryz.func230 (by kernel_rfl)
 t3:=Tryz.underlying3
 a3:=Tryz.isAgg3
 z3:=Tryz.sizeOf3
 v3:=Tryz.zeroValue3
 t4:=Tryz.underlying4
 a4:=Tryz.isAgg4
 z4:=Tryz.sizeOf4
 v4:=Tryz.zeroValue4
 t9:=Tryz.underlying9
 a9:=Tryz.isAgg9
 z9:=Tryz.sizeOf9
 v9:=Tryz.zeroValue9 }
open Go.RowKit Go.Lib in
theorem Tryz.strings_TrimPrefix (s p:ByteArray) (w:World):
  Calls Tryz.prog 153 #[.string s, .string p] w fun e w'=>e= .returned (.string ⟨(Lib.trimPrefix s.data.toList p.data.toList).toArray⟩)/\w'=w:=Any.strings_TrimPrefix Tryz.lays101 s p w
end Go.Proofs
namespace Go.Proofs.YtlnjmcchddbogaaGreatDoor
section
open Go Go.Lib
theorem DJ {d:Nat} (h:d<10):(UInt8.ofNat (48+d)).toNat=48+d:=by
 rw[UInt8.toNat_ofNat'];omega
theorem FV (u:Nat): ∀b∈decDigits u,48<=b.toNat/\b.toNat<=57:=by
 induction u using Nat.strongRecOn with
 |_ u ih=>
  intro b hb
  rw[decDigits] at hb
  split at hb
  ·obtain rfl:=List.mem_singleton.1 hb
   rw[DJ (by omega)];omega
  ·rcases List.mem_append.1 hb with hb|hb
   ·exact ih (u/10) (by omega) b hb
   ·obtain rfl:=List.mem_singleton.1 hb
    rw[DJ (Nat.mod_lt _ (by omega))];omega
theorem F5 (u:Nat):decDigits u≠[]:=by
 rw[decDigits]
 split
 ·simp
 ·simp
theorem Na (u:Nat) (hu:u≠0): ∃b r,decDigits u=b::r/\b.toNat≠48:=by
 induction u using Nat.strongRecOn with
 |_ u ih=>
  by_cases h:u<10
  ·exact⟨_,[],by rw[decDigits,dif_pos h],by rw[DJ h];omega⟩
  ·obtain⟨b,r,h1,h2⟩:=ih (u/10) (by omega) (by omega)
   exact⟨b,r++[UInt8.ofNat (48+u%10)],by rw[decDigits,dif_neg h,h1];rfl,h2⟩
theorem HT:decDigits 0=[48]:=by rw[decDigits,dif_pos (by omega)];rfl
theorem Cy: ∀(k u:Nat),1<=k->u<10^k->(decDigits u).length<=k
 |0,_,h,_=>by omega
 |1,u,_,h=>by rw[decDigits,dif_pos (by simpa using h)];simp
 |k+2,u,_,h=>by
  rw[decDigits]
  split
  ·simp
  ·rw[List.length_append]
   have:=Cy (k+1) (u/10) (by omega) (by rw[Nat.pow_succ] at h;omega)
   simp only[List.length_cons,List.length_nil];omega
theorem Pd (c:UInt8): ∀(l:List UInt8) (acc:Nat),parseUint10 acc (l++[c])=match parseUint10 acc l with| .ok v=>parseUint10 v [c]|NumEnd.syntax=>NumEnd.syntax| .range=> .range
 |[],acc=>rfl
 |b::l,acc=>by
  show parseUint10 acc (b::(l++[c]))=_
  unfold parseUint10
  split
  ·split
   ·rfl
   ·split
    ·rfl
    ·exact Pd c l _
  ·rfl
theorem Ub (u:Nat) (h:u<18446744073709551610):parseUint10 0 (decDigits u)= .ok u:=by
 induction u using Nat.strongRecOn with
 |_ u ih=>
  by_cases hu:u<10
  ·rw[decDigits,dif_pos hu]
   simp only[parseUint10]
   rw[DJ hu,if_pos (by omega),if_neg (by omega),if_neg (by omega)]
   congr 1;omega
  ·rw[decDigits,dif_neg hu,Pd,ih (u/10) (by omega) (by omega)]
   simp only[parseUint10]
   rw[DJ (Nat.mod_lt _ (by omega)),if_pos (by omega),if_neg (by omega),if_neg (by omega)]
   congr 1;omega
theorem CU (u:Nat): ∃b r,decDigits u=b::r/\48<=b.toNat/\b.toNat<=57:=by
 cases hd:decDigits u with
 |nil=>exact absurd hd (F5 u)
 |cons b r=>exact⟨b,r,rfl,FV u b (by rw[hd];exact List.mem_cons_self ..)⟩
theorem Xd (n:Int) (h1: -4611686018427387904<n) (h2:n<4611686018427387904):atoiAll (itoa n)= .ok n:=by
 unfold itoa
 split
 ·rename_i hn
  show(match parseMag (if (45:UInt8).toNat=43\/(45:UInt8).toNat=45 then decDigits n.natAbs else 45::decDigits n.natAbs) with|NumEnd.syntax=>_| .range=>_| .ok u=>_)=_
  rw[if_pos (by decide)]
  unfold parseMag
  rw[if_neg (F5 _),Ub _ (by omega)]
  show(if ¬((45:UInt8).toNat=45)/\9223372036854775808<=n.natAbs then _ else if (45:UInt8).toNat=45/\9223372036854775808<n.natAbs then _ else _)=_
  rw[if_neg (fun h=>h.1 (by decide)),if_neg (by omega),if_pos (by decide)]
  congr 1;omega
 ·rename_i hn
  obtain⟨b,r,hb,h3,h4⟩:=CU n.toNat
  have hp:=Ub n.toNat (by omega)
  rw[hb] at hp⊢
  unfold atoiAll
  simp only
  rw[if_neg (by omega)]
  unfold parseMag
  rw[if_neg (by simp),hp]
  simp only
  rw[if_neg (by omega),if_neg (by omega),if_neg (by omega)]
  congr 1;omega
theorem Z0 {l cs:List UInt8} (h: ∀b∈l,cs.contains b=true):l.dropWhile (cs.contains ·)=[]:=by
 induction l with
 |nil=>rfl
 |cons b l ih=>
  rw[List.dropWhile_cons,if_pos (h b (List.mem_cons_self ..))]
  exact ih fun x hx=>h x (List.mem_cons_of_mem _ hx)
def DB:List UInt8:=[48,49,50,51,52,53,54,55,56,57]
theorem ZE {b:UInt8} (h1:48<=b.toNat) (h2:b.toNat<=57):DB.contains b=true:=by
 have: ∀n:Fin 10,DB.contains (UInt8.ofNat (48+n.val))=true:=by decide
 have e:b=UInt8.ofNat (48+(b.toNat-48)):=by
  rw[show 48+(b.toNat-48)=b.toNat by omega];simp
 rw[e]
 exact this ⟨b.toNat-48,by omega⟩
theorem V4 (u:Nat):trimS (decDigits u) DB=[]:=by
 have h:trimRightS (decDigits u) DB=[]:=by
  unfold trimRightS
  rw[Z0 fun b hb=>by
   have:=FV u b (List.mem_reverse.1 hb)
   exact ZE this.1 this.2]
  rfl
 unfold trimS
 rw[h];rfl
theorem Bf (n:Int):trimPrefix (itoa n) [45]=decDigits n.natAbs:=by
 unfold itoa
 split
 ·rename_i hn
  rfl
 ·rename_i hn
  rw[show n.toNat=n.natAbs by omega]
  obtain⟨b,r,hb,h3,h4⟩:=CU n.natAbs
  rw[hb]
  unfold trimPrefix hasPrefix
  have:([45]:List UInt8).isPrefixOf (b::r)=false:=by
   have:(45:UInt8)≠b:=fun e=>by rw[<-e] at h3;exact absurd h3 (by decide)
   simp[List.isPrefixOf,this]
  rw[this];rfl
end
end Go.Proofs.YtlnjmcchddbogaaGreatDoor
namespace Go.Am
open Go
structure TI where
 agg:Bool:=false
 size:Nat:=1
 fields:List (Nat×Nat×Bool):=[]
 elem:Nat:=0
 elemSize:Nat:=0
 kind:Nat:=0
abbrev Tbl:=List (TypeId×TI)
def Cw (T:Tbl) (t:TypeId):Option TI:=
 match T with
 |[]=>none
 |(u,i)::r=>if Nat.beq u t then some i else Cw r t
def Y9 (P:Program) (t:TypeId):Bool:=
 match P.underlying t with
 |some (.struct _)|some (.array _ _)=>true
 |_=>false
def L5 (P:Program) (t:TypeId) (n:Nat):Bool:=
 match P.info? t with
 |some i=>i.size==n
 |none=>false
def Ip (P:Program) (t:TypeId) (i:TI):Bool:=
 L5 P t i.size&&
 (match P.underlying t with
 |some (.struct fs)=>i.agg&&i.kind==4&&fs.toList.length==i.fields.length&&
   ((fs.toList.zip i.fields).all fun(f,(off,size,ag))=>f.offset==off&&L5 P f.type size&&size !=0&&Y9 P f.type==ag&&(P.underlying f.type).isSome)
 |some (.array _ e)=>i.agg&&i.kind==3&&i.elem==e&&L5 P e i.elemSize
 |some (.slice e)=> !i.agg&&i.kind==2&&i.elem==e&&L5 P e i.elemSize
 |some .string=> !i.agg&&i.kind==1
 |some _=> !i.agg&&i.kind==0
 |none=>false)
def okB (P:Program) (T:Tbl):Bool:=T.all fun(t,i)=>Ip P t i
theorem BA {P:Program} {t:TypeId} {i:TI}: ∀ {T:Tbl},okB P T=true->Cw T t=some i->Ip P t i=true
 |[],_,h=>by simp[Cw] at h
 |(u,j)::r,h,hf=>by
  simp only[okB,List.all_cons,Bool.and_eq_true] at h
  unfold Cw at hf
  by_cases e:Nat.beq u t=true
  ·rw[if_pos e] at hf
   cases hf
   have:u=t:=Nat.eq_of_beq_eq_true e
   subst this
   exact h.1
  ·rw[if_neg e] at hf
   exact BA (T:=r) h.2 hf
theorem Ey {P:Program} {t:TypeId} {n:Nat} (h:L5 P t n=true) (w:World):(sizeOf t).run P w= .ok n w:=by
 unfold L5 at h
 cases hi:P.info? t with
 |none=>rw[hi] at h;cases h
 |some i=>rw[hi] at h;simp at h;simp[sizeOf,typeInfo,hi,h]
theorem NX {P:Program} {t:TypeId} {i:TI} (h:Ip P t i=true) (w:World):(sizeOf t).run P w= .ok i.size w:=by
 simp only[Ip,Bool.and_eq_true] at h
 exact Ey h.1 w
theorem SI {P:Program} {t:TypeId} {b:Bool} (h:Y9 P t=b) (hu:(P.underlying t).isSome=true) (w:World):(isAgg t).run P w= .ok b w:=by
 unfold Y9 at h
 cases hu':P.underlying t with
 |none=>rw[hu'] at hu;cases hu
 |some d=>
  rw[hu'] at h
  unfold isAgg
  simp only[Sem.run_bind,run_underlying hu',Result.andThen_ok]
  cases d<;>simp at h<;>subst h<;>rfl
theorem WR {P:Program} {t:TypeId} {i:TI} (h:Ip P t i=true):(P.underlying t).isSome=true:=by
 simp only[Ip,Bool.and_eq_true] at h
 cases hu:P.underlying t with
 |none=>have:=h.2;rw[hu] at this;cases this
 |some d=>rfl
theorem Wd {P:Program} {t:TypeId} {i:TI} (h:Ip P t i=true) (w:World):(isAgg t).run P w= .ok i.agg w:=by
 refine SI ?_ (WR h) w
 have h2:=h
 simp only[Ip,Bool.and_eq_true] at h2
 obtain⟨_,h2⟩:=h2
 unfold Y9
 cases hu:P.underlying t with
 |none=>rw[hu] at h2;cases h2
 |some d=>
  rw[hu] at h2
  cases d<;>simp at h2<;>simp[h2]
end Go.Am
namespace Go.Am
open Go
def UK (a b:IntKind):Bool:=decide (a=b)
def dS (op:BinOp) (k:IntKind) (a b:Int):Option Value:=
 match op with
 | .add=>some (.int k (k.wrap (a+b)))
 | .sub=>some (.int k (k.wrap (a-b)))
 | .mul=>some (.int k (k.wrap (a*b)))
 | .eql=>some (.bool (a==b))
 | .neq=>some (.bool (a !=b))
 | .lss=>some (.bool (decide (a<b)))
 | .leq=>some (.bool (decide (a<=b)))
 | .gtr=>some (.bool (decide (a>b)))
 | .geq=>some (.bool (decide (a≥b)))
 |_=>none
def d7 (op:BinOp) (a b:ByteArray):Option Value:=
 match op with
 | .eql=>some (.bool (a.toList==b.toList))
 | .neq=>some (.bool (!(a.toList==b.toList)))
 |_=>none
def Ru (op:BinOp) (x y:Value):Option Value:=
 match x,y with
 | .int k a, .int k' b=>match UK k k' with|true=>dS op k a b|false=>none
 | .string a, .string b=>d7 op a b
 |_,_=>none
def Uy (op:UnOp) (x:Value):Option Value:=
 match op,x with
 | .not, .bool b=>some (.bool (!b))
 | .neg, .int k n=>some (.int k (k.wrap (0-n)))
 |_,_=>none
def Cn (ρ:Operand->Option Value):List Operand->Option (List Value)
 |[]=>some []
 |x::r=>match ρ x with
  |some v=>match Cn ρ r with
   |some l=>some (v::l)
   |none=>none
  |none=>none
def XJ:Value->List Value->Option Value
 | .int k x, .int k' y::r=>match UK k k' with|true=>XJ (.int k (if y>x then y else x)) r|false=>none
 | .int k x,[]=>some (.int k x)
 |_,_=>none
def Zk:Value->List Value->Option Value
 | .int k x, .int k' y::r=>match UK k k' with|true=>Zk (.int k (if y<x then y else x)) r|false=>none
 | .int k x,[]=>some (.int k x)
 |_,_=>none
def TO (T:Tbl) (b:Builtin) (ts:Array TypeId) (vs:List Value):Option Value:=
 match b,ts.toList,vs with
 | .len,t::_,x::_=>match Cw T t with
  |none=>none
  |some i=>match i.kind,x with
   |1, .string s=>some (.int .i64 s.size)
   |2, .slice _ n _=>some (.int .i64 n)
   |_,_=>none
 | .cap,t::_,x::_=>match Cw T t with
  |none=>none
  |some i=>match i.kind,x with
   |2, .slice _ _ c=>some (.int .i64 c)
   |_,_=>none
 | .max,_,x::r=>XJ x r
 | .min,_,x::r=>Zk x r
 |_,_,_=>none
def nth {α:Type}:List α->Nat->Option α
 |[],_=>none
 |a::_,0=>some a
 |_::l,n+1=>nth l n
theorem Bv {α:Type}: ∀(l:List α) (n:Nat),nth l n=l[n]?
 |[],_=>rfl
 |_::_,0=>rfl
 |_::l,n+1=>by simp[nth,Bv l n]
def AC (T:Tbl) (ρ:Operand->Option Value):Op->Option Value
 | .move x| .assign x=>ρ x
 | .pick c a b=>match ρ c with
  |some (.bool true)=>ρ a
  |some (.bool false)=>ρ b
  |_=>none
 | .binOp op _ x y _=>match ρ x with
  |some a=>match ρ y with
   |some b=>Ru op a b
   |none=>none
  |none=>none
 | .unOp op _ x=>match ρ x with
  |some a=>Uy op a
  |none=>none
 | .fieldAddr s x f=>match Cw T s with
  |none=>none
  |some i=>match i.kind,nth i.fields f,ρ x with
   |4,some (off,_,_),some (.pointer (some ⟨b,o,none⟩))=>some (.pointer (some ⟨b,o+off,none⟩))
   |_,_,_=>none
 | .field s x f=>match Cw T s with
  |none=>none
  |some i=>match i.kind,nth i.fields f,ρ x with
   |4,some (off,size,ag),some (.agg cs)=>match ag with
    |true=>some (.agg ((cs.toList.drop off).take size).toArray)
    |false=>nth cs.toList off
   |_,_,_=>none
 | .extract x i=>match ρ x with
  |some (.tuple vs)=>nth vs.toList i
  |_=>none
 | .makeFunc fn first capt=>match Cn ρ first.toList with
  |some l=>match Cn ρ capt.toList with
   |some m=>some (.func fn l.toArray m.toArray)
   |none=>none
  |none=>none
 | .call c=>match c.callee with
  | .builtin b=>match Cn ρ c.args.toList with
   |some vs=>TO T b c.argTypes vs
   |none=>none
  |_=>none
 |_=>none
theorem OR {ρ:Operand->Option Value} {ρ':Operand->Value} (hρ: ∀x v,ρ x=some v->ρ' x=v): ∀ {l:List Operand} {vs:List Value},Cn ρ l=some vs->l.map ρ'=vs
 |[],vs,h=>by cases h;rfl
 |x::r,vs,h=>by
  unfold Cn at h
  split at h
  ·rename_i v hv
   split at h
   ·rename_i l hl
    cases h
    simp[hρ _ _ hv,OR hρ hl]
   ·cases h
  ·cases h
theorem E5 {ρ:Operand->Option Value} {ρ':Operand->Value} (hρ: ∀x v,ρ x=some v->ρ' x=v) {xs:Array Operand} {vs:List Value} (h:Cn ρ xs.toList=some vs):xs.map ρ'=vs.toArray:=by
 have e:=OR hρ h
 apply Array.toList_inj.1
 rw[Array.toList_map,e]
theorem Vo {P:Program} {op:BinOp} {k:IntKind} {a b:Int} {v:Value} (t:TypeId) (x y:Operand) (h:dS op k a b=some v) (w:World):
  ((do eqGuard op t x y (.int k a) (.int k b);binOp op t (.int k a) (.int k b)):Sem Value).run P w= .ok v w:=by
 unfold dS at h
 cases op<;>simp at h<;>subst h<;>simp[eqGuard,binOp,Op.intArith,Op.intCmp]
theorem U5 {P:Program} {op:BinOp} {a b:ByteArray} {v:Value} (t:TypeId) (x y:Operand) (h:d7 op a b=some v) (w:World):
  ((do eqGuard op t x y (.string a) (.string b);binOp op t (.string a) (.string b)):Sem Value).run P w= .ok v w:=by
 unfold d7 at h
 cases op<;>simp at h<;>subst h<;>simp[eqGuard,binOp,Op.stringOp]
theorem Tp {P:Program} {op:BinOp} {a b v:Value} (t:TypeId) (x y:Operand) (h:Ru op a b=some v) (w:World):
  ((do eqGuard op t x y a b;binOp op t a b):Sem Value).run P w= .ok v w:=by
 unfold Ru at h
 split at h
 ·rename_i k a k' b
  split at h
  ·rename_i hk
   have:k=k':=of_decide_eq_true hk
   subst this
   exact Vo t x y h w
  ·cases h
 ·exact U5 t x y h w
 ·cases h
theorem U4 {P:Program} {op:UnOp} {a v:Value} (h:Uy op a=some v) (w:World):(Op.unary op a).run P w= .ok v w:=by
 unfold Uy at h
 split at h<;>cases h<;>simp[Op.unary,Op.intArith]
theorem SH {P:Program} (w:World): ∀(r:List Value) (x v:Value),XJ x r=some v->(r.foldlM Builtin.max2 x:Sem Value).run P w= .ok v w
 |[],x,v,h=>by
  cases x<;>simp[XJ] at h<;>subst h<;>simp[List.foldlM]
 |y::r,x,v,h=>by
  cases x<;>cases y<;>simp[XJ] at h
  rename_i k a k' b
  split at h
  ·rename_i hk
   have:k=k':=of_decide_eq_true hk
   subst this
   have:=SH (P:=P) w r _ v h
   simp only[List.foldlM,Sem.run_bind,Builtin.max2,Sem.run_pure,Result.andThen_ok]
   exact this
  ·cases h
theorem Tl {P:Program} (w:World): ∀(r:List Value) (x v:Value),Zk x r=some v->(r.foldlM Builtin.min2 x:Sem Value).run P w= .ok v w
 |[],x,v,h=>by
  cases x<;>simp[Zk] at h<;>subst h<;>simp[List.foldlM]
 |y::r,x,v,h=>by
  cases x<;>cases y<;>simp[Zk] at h
  rename_i k a k' b
  split at h
  ·rename_i hk
   have:k=k':=of_decide_eq_true hk
   subst this
   have:=Tl (P:=P) w r _ v h
   simp only[List.foldlM,Sem.run_bind,Builtin.min2,Sem.run_pure,Result.andThen_ok]
   exact this
  ·cases h
theorem Hq {P:Program} {t:TypeId} {i:TI} (h:Ip P t i=true) (hk:i.kind=1):P.underlying t=some .string:=by
 simp only[Ip,Bool.and_eq_true] at h
 cases hu:P.underlying t with
 |none=>have:=h.2;rw[hu] at this;cases this
 |some d=>have h2:=h.2;rw[hu] at h2;cases d<;>simp[hk] at h2<;>first|rfl|(exfalso;omega)
theorem Fb {P:Program} {t:TypeId} {i:TI} (h:Ip P t i=true) (hk:i.kind=2):P.underlying t=some (.slice i.elem)/\L5 P i.elem i.elemSize=true:=by
 simp only[Ip,Bool.and_eq_true] at h
 cases hu:P.underlying t with
 |none=>have:=h.2;rw[hu] at this;cases this
 |some d=>have h2:=h.2;rw[hu] at h2;cases d<;>simp[hk] at h2<;>first|(obtain⟨⟨_,h3⟩,h4⟩:=h2;subst h3;exact⟨rfl,h4⟩)|(exfalso;omega)
theorem Mh {P:Program} {t:TypeId} {i:TI} (h:Ip P t i=true) (hk:i.kind=4): ∃fs,P.underlying t=some (.struct fs)/\
  ∀(f:Nat) (x:Nat×Nat×Bool),i.fields[f]? =some x-> ∃g,fs[f]? =some g/\g.offset=x.1/\L5 P g.type x.2.1=true/\x.2.1≠0/\Y9 P g.type=x.2.2/\(P.underlying g.type).isSome=true:=by
 simp only[Ip,Bool.and_eq_true] at h
 cases hu:P.underlying t with
 |none=>have:=h.2;rw[hu] at this;cases this
 |some d=>
  have h2:=h.2;rw[hu] at h2
  cases d with
  |struct fs=>
   simp only[Bool.and_eq_true,List.all_eq_true] at h2
   obtain⟨⟨_,hl⟩,ha⟩:=h2
   have hl:fs.toList.length=i.fields.length:=by simpa using hl
   refine⟨fs,rfl,fun f x hx=> ?_⟩
   have hf:f<i.fields.length:=by
    rcases Nat.lt_or_ge f i.fields.length with h'|h'
    ·exact h'
    ·rw[List.getElem?_eq_none h'] at hx;cases hx
   have hf2:f<fs.size:=by rw[Array.length_toList] at hl;omega
   refine⟨fs[f],by simp[hf2], ?_⟩
   have hx':i.fields[f]=x:=by rw[List.getElem?_eq_getElem hf] at hx;exact Option.some.inj hx
   have hm:(fs[f],x)∈fs.toList.zip i.fields:=by
    rw[<-hx']
    have:(fs.toList.zip i.fields)[f]'(by simp;omega)=(fs[f],i.fields[f]):=by simp
    rw[<-this]
    exact List.getElem_mem _
   have:=ha _ hm
   simp only at this
   obtain⟨⟨⟨⟨h1,h3⟩,h4⟩,h5⟩,h6⟩:=this
   exact⟨by simpa using h1,h3,by simpa using h4,by simpa using h5,h6⟩
  |_=>simp[hk] at h2
theorem Lc {P:Program} {T:Tbl} {ρ:Operand->Option Value} {ρ':Operand->Value} (hT:okB P T=true) (hρ: ∀x v,ρ x=some v->ρ' x=v)
  {o:Oper} {v:Value} (h:AC T ρ o.op=some v) (w:World):(execOp ρ' o).run P w= .ok (.value v) w:=by
 unfold execOp
 cases ho:o.op<;>rw[ho] at h<;>simp only[AC] at h<;>try (cases h;done)
 case move x=>simp[hρ _ _ h]
 case assign x=>simp[hρ _ _ h]
 case pick c a b=>
  split at h
  ·rename_i hc;simp[hρ _ _ hc,asBool,hρ _ _ h]
  ·rename_i hc;simp[hρ _ _ hc,asBool,hρ _ _ h]
  ·cases h
 case binOp op t x y u=>
  split at h
  ·rename_i a ha
   split at h
   ·rename_i b hb
    have:=Tp (P:=P) t x y h w
    simp only[hρ _ _ ha,hρ _ _ hb]
    simp only[Sem.run_bind] at this⊢
    simp[this]
   ·cases h
  ·cases h
 case unOp op t x=>
  split at h
  ·rename_i a ha
   have:=U4 (P:=P) h w
   simp only[hρ _ _ ha,Sem.run_bind]
   simp[this]
  ·cases h
 case fieldAddr s x f=>
  split at h
  ·cases h
  ·rename_i i hi
   have hr:=BA hT hi
   split at h
   ·rename_i off _ _ b o' hk hn hx
    cases h
    obtain⟨fs,hu,hf⟩:=Mh hr hk
    rw[Bv] at hn
    obtain⟨g,hg,h1,h2,h3,_⟩:=hf _ _ hn
    simp only at h1 h2 h3
    simp only[Instr.fieldAt,Sem.run_bind,run_underlying hu,Result.andThen_ok,hg,hρ _ _ hx,Instr.sureAddr,Sem.run_pure,fieldPlace,Ey h2]
    rw[if_neg h3]
    simp only[Sem.run_pure,Result.andThen_ok,Addr.add,h1]
    by_cases h0:off=0<;>simp[h0]
   ·cases h
 case field s x f=>
  split at h
  ·cases h
  ·rename_i i hi
   have hr:=BA hT hi
   split at h
   ·rename_i off size ag cs hk hn hx
    obtain⟨fs,hu,hf⟩:=Mh hr hk
    rw[Bv] at hn
    obtain⟨g,hg,h1,h2,h3,h4,h5⟩:=hf _ _ hn
    simp only at h1 h2 h3 h4
    have hag:=SI h4 h5 w
    simp only[Instr.field,Sem.run_bind,run_underlying hu,Result.andThen_ok,hg,hρ _ _ hx,asAgg,Sem.run_pure,part,hag,h1]
    cases ag
    ·simp only[Bool.false_eq_true,if_false]
     rw[Bv] at h
     have:cs[off]? =some v:=by simpa using h
     simp[this]
    ·simp only[if_true,Sem.run_bind,Ey h2,Result.andThen_ok,Sem.run_pure]
     cases h
     have:cs.extract off (off+size)=((cs.toList.drop off).take size).toArray:=by
      rw[<-Array.toList_inj]
      simp[List.extract_eq_take_drop]
     rw[this]
   ·cases h
 case extract x i=>
  split at h
  ·rename_i vs hx
   rw[Bv] at h
   simp only[hρ _ _ hx,Instr.extract]
   have:vs[i]? =some v:=by simpa using h
   simp[this]
  ·cases h
 case makeFunc fn first capt=>
  split at h
  ·rename_i l hl
   split at h
   ·rename_i m hm
    cases h
    simp[Instr.makeFunc,E5 hρ hl,E5 hρ hm]
   ·cases h
  ·cases h
 case call c=>
  split at h
  ·rename_i b hb
   split at h
   ·rename_i vs hvs
    simp only[resolve,hb,Sem.run_bind,Sem.run_pure,Result.andThen_ok,invoke,E5 hρ hvs]
    unfold TO at h
    split at h
    ·rename_i t ts x vs' hts
     split at h
     ·cases h
     ·rename_i i hi
      have hr:=BA hT hi
      have ht:c.argTypes[0]? =some t:=by
       have:=congrArg (·[0]?) hts;simpa using this
      split at h
      ·rename_i s hk
       cases h
       have:=Hq hr hk
       simp[builtin,Builtin.len_,ht,run_underlying this,goInt]
      ·rename_i n _ hk
       cases h
       have:=(Fb hr hk).1
       simp[builtin,Builtin.len_,ht,run_underlying this,goInt]
      ·cases h
    ·rename_i t ts x vs' hts
     split at h
     ·cases h
     ·rename_i i hi
      have hr:=BA hT hi
      have ht:c.argTypes[0]? =some t:=by
       have:=congrArg (·[0]?) hts;simpa using this
      split at h
      ·rename_i _ n hk
       cases h
       have:=(Fb hr hk).1
       simp[builtin,Builtin.cap_,ht,run_underlying this,goInt]
      ·cases h
    ·rename_i x r
     have:=SH (P:=P) w r _ v h
     simp[builtin,Builtin.max_,this]
    ·rename_i x r
     have:=Tl (P:=P) w r _ v h
     simp[builtin,Builtin.min_,this]
    ·cases h
   ·cases h
  ·cases h
end Go.Am
namespace Go.Am
open Go Go.RowKit
inductive Raw
 |obj (o:Obj)
 |grp (l:List (Nat×Obj))
structure Bx where
 b:Nat
 ty:TypeId
 cells:List Value
 on:Bool:=true
 raw:Option Raw:=none
def Bx.obj (B:Bx):Obj:=match B.raw with
 |some (.obj o)=>o
 |_=> .cells B.cells.toArray B.ty (0,0)
def Bx.blk (B:Bx):List (Nat×Obj):=match B.on,B.raw with
 |false,_=>[]
 |true,some (.grp l)=>l
 |true,_=>[(B.b,B.obj)]
def Bx.sole (B:Bx):Bool:=match B.on,B.raw with
 |false,_=>false
 |true,some (.grp _)=>false
 |true,_=>true
def Bx.row (B:Bx):Bool:=B.on&&B.raw.isNone
theorem Bx.sole_blk {B:Bx} (h:B.sole=true):B.blk=[(B.b,B.obj)]:=by
 obtain⟨b,ty,c,on,raw⟩:=B
 cases on
 ·cases h
 ·cases raw with
  |none=>rfl
  |some r=>cases r with
   |obj o=>rfl
   |grp l=>cases h
theorem Bx.row_on {B:Bx} (h:B.row=true):B.sole=true/\B.obj= .cells B.cells.toArray B.ty (0,0):=by
 obtain⟨b,ty,c,on,raw⟩:=B
 cases on<;>cases raw<;>simp[Bx.row] at h
 exact⟨rfl,rfl⟩
def H5:Obj:= .deferred (some [])
structure Own (n:Nat) (bxs:List Bx) (W:World):Prop where
 cell: ∀(k:Nat) (B:Bx),bxs[k]? =some B-> ∀p∈B.blk,W.heap[p.1]? =some p.2/\n<=p.1
 nd: ∀(k:Nat) (B:Bx),bxs[k]? =some B->(B.blk.map (·.1)).Nodup
 apart: ∀(i j:Nat) (B C:Bx),bxs[i]? =some B->bxs[j]? =some C->i≠j-> ∀p∈B.blk, ∀q∈C.blk,p.1≠q.1
structure Hp (W0:World) (bxs:List Bx) (W:World):Prop where
 below:Below W0.heap.size W0 W
 own:Own W0.heap.size bxs W
abbrev Au (W W':World) (bxs:List Bx):Prop:=Own W.heap.size bxs W'
theorem Own.nil (n:Nat) (W:World):Own n [] W:=⟨fun _ _ h=>by simp at h,fun _ _ h=>by simp at h,fun _ _ _ _ h=>by simp at h⟩
theorem Au.nil (W W':World):Au W W' []:=Own.nil _ _
theorem Hp.start (W:World):Hp W [] W:=⟨Below.refl _ _,Own.nil _ _⟩
theorem Own.lt {n:Nat} {bxs:List Bx} {W:World} (h:Own n bxs W) {k:Nat} {B:Bx} (hk:bxs[k]? =some B) {p:Nat×Obj} (hp:p∈B.blk):p.1<W.heap.size:=
 (Array.getElem?_eq_some_iff.1 (h.cell k B hk p hp).1).1
theorem Own.sole {n:Nat} {bxs:List Bx} {W:World} (h:Own n bxs W) (k:Nat) (B:Bx) (hk:bxs[k]? =some B) (ho:B.sole=true):W.heap[B.b]? =some B.obj/\n<=B.b:=
 h.cell k B hk (B.b,B.obj) (by rw[Bx.sole_blk ho];exact List.mem_cons_self ..)
theorem Hp.at_ {W0 W:World} {bxs:List Bx} (h:Hp W0 bxs W) (k:Nat) (B:Bx) (hk:bxs[k]? =some B) (ho:B.sole=true):W.heap[B.b]? =some B.obj/\W0.heap.size<=B.b:=h.own.sole k B hk ho
theorem Own.grow {n:Nat} {bxs:List Bx} {W W':World} (h:Own n bxs W) (hb:Below W.heap.size W W'):Own n bxs W':=
 ⟨fun k B hk p hp=>⟨(hb.block _ (h.lt hk hp)).trans (h.cell k B hk p hp).1,(h.cell k B hk p hp).2⟩,h.nd,h.apart⟩
theorem Hp.grow {W0 W W':World} {bxs:List Bx} (h:Hp W0 bxs W) (hb:Below W.heap.size W W'):Hp W0 bxs W':=
 ⟨h.below.trans (hb.mono h.below.size),h.own.grow hb⟩
theorem H3 {α:Type} {l m:List α} {k:Nat} {x:α} (h:(l++m)[k]? =some x):(k<l.length/\l[k]? =some x)\/(l.length<=k/\m[k-l.length]? =some x):=by
 rcases Nat.lt_or_ge k l.length with hk|hk
 ·rw[List.getElem?_append_left hk] at h;exact .inl ⟨hk,h⟩
 ·rw[List.getElem?_append_right hk] at h;exact .inr ⟨hk,h⟩
theorem Own.append {n:Nat} {bxs nb:List Bx} {W W':World} (h:Own n bxs W) (hs:n<=W.heap.size) (hb:Below W.heap.size W W') (hn:Au W W' nb):Own n (bxs++nb) W':=by
 have h':=h.grow hb
 refine⟨fun k B hk p hp=> ?_,fun k B hk=> ?_,fun i j B C hi hj hne p hp q hq=> ?_⟩
 ·rcases H3 hk with⟨_,hk⟩|⟨_,hk⟩
  ·exact h'.cell _ _ hk p hp
  ·have:=hn.cell _ _ hk p hp
   exact⟨this.1,Nat.le_trans hs this.2⟩
 ·rcases H3 hk with⟨_,hk⟩|⟨_,hk⟩
  ·exact h.nd _ _ hk
  ·exact hn.nd _ _ hk
 ·rcases H3 hi with⟨_,hi⟩|⟨hli,hi⟩<;>rcases H3 hj with⟨_,hj⟩|⟨hlj,hj⟩
  ·exact h.apart _ _ _ _ hi hj hne p hp q hq
  ·have h1:=h.lt hi hp
   have h2:=(hn.cell _ _ hj q hq).2
   omega
  ·have h1:=h.lt hj hq
   have h2:=(hn.cell _ _ hi p hp).2
   omega
  ·exact hn.apart _ _ _ _ hi hj (by omega) p hp q hq
theorem Hp.append {W0 W W':World} {bxs nb:List Bx} (h:Hp W0 bxs W) (hb:Below W.heap.size W W') (hn:Au W W' nb):Hp W0 (bxs++nb) W':=
 ⟨(h.grow hb).below,h.own.append h.below.size hb hn⟩
theorem Own.one {n:Nat} {W:World} {B:Bx} (h: ∀p∈B.blk,W.heap[p.1]? =some p.2/\n<=p.1) (hn:(B.blk.map (·.1)).Nodup):Own n [B] W:=by
 have zero: ∀ {k:Nat} {C:Bx},[B][k]? =some C->k=0/\C=B:=fun {k C} hk=>by
  cases k with
  |zero=>simp at hk;exact⟨rfl,hk.symm⟩
  |succ k=>simp at hk
 refine⟨fun k C hk=> ?_,fun k C hk=> ?_,fun i j C E hi hj hne=> ?_⟩
 ·obtain⟨_,rfl⟩:=zero hk;exact h
 ·obtain⟨_,rfl⟩:=zero hk;exact hn
 ·exact absurd ((zero hi).1.trans (zero hj).1.symm) hne
theorem Own.one_sole {n:Nat} {W:World} {B:Bx} (ho:B.sole=true) (h:W.heap[B.b]? =some B.obj/\n<=B.b):Own n [B] W:=by
 refine Own.one (fun p hp=> ?_) ?_
 ·rw[Bx.sole_blk ho] at hp
  obtain rfl:=List.mem_singleton.1 hp
  exact h
 ·rw[Bx.sole_blk ho];exact List.nodup_cons.2 ⟨List.not_mem_nil,List.nodup_nil⟩
theorem Hp.alloc {W0 W:World} {bxs:List Bx} (h:Hp W0 bxs W) (t:TypeId) (c:List Value):Hp W0 (bxs++[⟨W.heap.size,t,c,true,none⟩]) (W.alloc (.cells c.toArray t)):=by
 refine h.append ((Below.refl _ _).alloc (Nat.le_refl _) _) (Own.one_sole rfl ⟨?_,Nat.le_refl _⟩)
 show(W.heap.push _)[W.heap.size]? =_
 rw[Array.getElem?_push_size]
 rfl
theorem Own.sub {n:Nat} {W:World} {l m:List Bx} (h:Own n l W) (f:Nat->Nat) (hf: ∀k B,m[k]? =some B->B.blk≠[]->l[f k]? =some B) (hi: ∀i j B C,m[i]? =some B->m[j]? =some C->f i=f j->i=j):Own n m W:=by
 have ne: ∀ {B:Bx} {p:Nat×Obj},p∈B.blk->B.blk≠[]:=fun {B p} hp e=>by rw[e] at hp;cases hp
 refine⟨fun k B hk p hp=>h.cell _ B (hf k B hk (ne hp)) p hp,fun k B hk=> ?_,fun i j B C hB hC hne p hp q hq=>h.apart _ _ B C (hf i B hB (ne hp)) (hf j C hC (ne hq)) (fun e=>hne (hi i j B C hB hC e)) p hp q hq⟩
 by_cases e:B.blk=[]
 ·rw[e];exact List.nodup_nil
 ·exact h.nd _ B (hf k B hk e)
theorem Hp.take {W0 W:World} {bxs nb:List Bx} (h:Hp W0 (bxs++nb) W):Hp W0 bxs W:=
 ⟨h.below,h.own.sub (fun k=>k) (fun k B hk _=>by rw[List.getElem?_append_left (List.getElem?_eq_some_iff.1 hk).1];exact hk) (fun _ _ _ _ _ _ h=>h)⟩
structure Upd (W W':World) (b:Nat) (o:Obj):Prop where
 os:W'.os=W.os
 tape:W'.tape=W.tape
 output:W'.output=W.output
 heap:W'.heap=W.heap.setIfInBounds b o
theorem Er {l:List Bx} {k i:Nat} {X C:Bx} (h:(l.set k X)[i]? =some C):(i=k/\C=X)\/(i≠k/\l[i]? =some C):=by
 by_cases e:i=k
 ·subst e
  have hk:i<l.length:=by
   have:=(List.getElem?_eq_some_iff.1 h).1
   simpa using this
  rw[List.getElem?_set_self hk] at h
  exact .inl ⟨rfl,(Option.some.inj h).symm⟩
 ·rw[List.getElem?_set_ne (fun x=>e x.symm)] at h;exact .inr ⟨e,h⟩
theorem Hp.turn {W0 W W':World} {bxs:List Bx} (h:Hp W0 bxs W) {k:Nat} {B B':Bx} (hk:bxs[k]? =some B) (hsub: ∀p∈B'.blk,(∃q∈B.blk,q.1=p.1)\/W.heap.size<=p.1) (hnd:(B'.blk.map (·.1)).Nodup)
  (hos:W'.os=W.os) (hta:W'.tape=W.tape) (hou:W'.output=W.output) (hsz:W.heap.size<=W'.heap.size) (hnew: ∀p∈B'.blk,W'.heap[p.1]? =some p.2) (hold: ∀x,(∀q∈B.blk,q.1≠x)->x<W.heap.size->W'.heap[x]? =W.heap[x]?):Hp W0 (bxs.set k B') W':=by
 refine⟨⟨hos.trans h.below.os,hta.trans h.below.tape,hou.trans h.below.output,Nat.le_trans h.below.size hsz,fun i hi=> ?_⟩,fun i C hi p hp=> ?_,fun i C hi=> ?_,fun i j C E hi hj hne p hp q hq=> ?_⟩
 ·refine(hold i (fun q hq e=> ?_) (Nat.lt_of_lt_of_le hi h.below.size)).trans (h.below.block i hi)
  have:=(h.own.cell k B hk q hq).2
  omega
 ·rcases Er hi with⟨rfl,rfl⟩|⟨hne,hi⟩
  ·rcases hsub p hp with⟨q,hq,e⟩|e
   ·exact⟨hnew p hp,e▸(h.own.cell i B hk q hq).2⟩
   ·exact⟨hnew p hp,Nat.le_trans h.below.size e⟩
  ·have:=h.own.cell i C hi p hp
   exact⟨(hold p.1 (fun q hq=>h.own.apart k i B C hk hi (fun e=>hne e.symm) q hq p hp) (h.own.lt hi hp)).trans this.1,this.2⟩
 ·rcases Er hi with⟨rfl,rfl⟩|⟨hne,hi⟩
  ·exact hnd
  ·exact h.own.nd i C hi
 ·rcases Er hi with⟨ei,eC⟩|⟨hne1,hi'⟩<;>rcases Er hj with⟨ej,eE⟩|⟨hne2,hj'⟩
  ·exact absurd (ei.trans ej.symm) hne
  ·subst eC;subst ei
   rcases hsub p hp with⟨p',hp',e⟩|e
   ·rw[<-e];exact h.own.apart _ j B E hk hj' hne p' hp' q hq
   ·have:=h.own.lt hj' hq;omega
  ·subst eE;subst ej
   rcases hsub q hq with⟨q',hq',e⟩|e
   ·rw[<-e];exact h.own.apart i _ C B hi' hk hne p hp q' hq'
   ·have:=h.own.lt hi' hp;omega
  ·exact h.own.apart i j C E hi' hj' hne p hp q hq
theorem Hp.updO {W0 W W':World} {bxs:List Bx} (h:Hp W0 bxs W) {k:Nat} {B B':Bx} (hk:bxs[k]? =some B) (ho:B.sole=true) (hb':B'.b=B.b) (hu:Upd W W' B.b B'.obj) (ho':B'.sole=true:=by rfl):
  Hp W0 (bxs.set k B') W':=by
 have hlt:B.b<W.heap.size:=(Array.getElem?_eq_some_iff.1 (h.at_ k B hk ho).1).1
 refine h.turn hk (fun p hp=> ?_) ?_ hu.os hu.tape hu.output (by rw[hu.heap,Array.size_setIfInBounds];exact Nat.le_refl _) (fun p hp=> ?_) (fun x hx _=> ?_)
 ·rw[Bx.sole_blk ho'] at hp
  obtain rfl:=List.mem_singleton.1 hp
  exact .inl ⟨(B.b,B.obj),by rw[Bx.sole_blk ho];exact List.mem_cons_self ..,hb'.symm⟩
 ·rw[Bx.sole_blk ho'];exact List.nodup_cons.2 ⟨List.not_mem_nil,List.nodup_nil⟩
 ·rw[Bx.sole_blk ho'] at hp
  obtain rfl:=List.mem_singleton.1 hp
  show W'.heap[B'.b]? =some B'.obj
  rw[hu.heap,hb',Array.getElem?_setIfInBounds,if_pos rfl,if_pos hlt]
 ·have:=hx (B.b,B.obj) (by rw[Bx.sole_blk ho];exact List.mem_cons_self ..)
  rw[hu.heap,Array.getElem?_setIfInBounds,if_neg this]
theorem Hp.upd {W0 W W':World} {bxs:List Bx} (h:Hp W0 bxs W) {k:Nat} {B:Bx} (hk:bxs[k]? =some B) (ho:B.row=true) {c:List Value} (hu:Upd W W' B.b (.cells c.toArray B.ty (0,0))):
  Hp W0 (bxs.set k { B with cells:=c }) W':=by
 obtain⟨b,ty,cs,on,raw⟩:=B
 cases on<;>cases raw<;>simp[Bx.row] at ho
 exact h.updO hk rfl rfl hu
theorem Addr.add_none (b o i:Nat):(⟨b,o,none⟩:Addr).add i=⟨b,o+i,none⟩:=by
 unfold Addr.add;by_cases h:i=0<;>simp[h]
theorem Gq {W:World} {b o:Nat} {c:List Value} {ty:TypeId} {fr:Nat×Nat} (h:W.heap[b]? =some (.cells c.toArray ty fr)):W.cell? ⟨b,o,none⟩=c[o]? :=by
 simp[World.cell?,h]
theorem Ra {W:World} {b o:Nat} {c:Array Value} {ty:TypeId} (h:W.heap[b]? =some (.cells c ty (0,0))):W.frozen? ⟨b,o,none⟩=false:=by
 simp[World.frozen?,h]
theorem EB {P:Program} {W:World} {b o:Nat} {f:Nat->Option Value} (hc: ∀j,W.cell? ⟨b,o+j,none⟩=f j): ∀(n i:Nat) (acc:Array Value) (vs:List Value),vs.length=n->(∀j,j<n->f (i+j)=vs[j]?)->
  (loadCellsFrom ⟨b,o,none⟩ i n acc).run P W= .ok (acc++vs.toArray) W
 |0,i,acc,vs,hl,_=>by
  have:vs=[]:=List.length_eq_zero_iff.1 hl
  subst this;simp[loadCellsFrom]
 |n+1,i,acc,[],hl,_=>by simp at hl
 |n+1,i,acc,v::vs,hl,h=>by
  have h0:=h 0 (by omega)
  simp only[Nat.add_zero,List.getElem?_cons_zero] at h0
  have hrest:=EB (P:=P) hc n (i+1) (acc.push v) vs (by simpa using hl) (fun j hj=>by
   have:=h (j+1) (by omega)
   rw[show i+1+j=i+(j+1) by omega]
   simpa using this)
  have h1:(load (⟨b,o+i,none⟩:Addr)).run P W= .ok v W:=by simp[load,Sem.run,hc,h0]
  simp only[loadCellsFrom,Sem.run_bind,Addr.add_none,h1,Result.andThen_ok,hrest]
  congr 1
  apply Array.toList_inj.1;simp
def DZ (c:List Value) (o:Nat) (i:TI):Option Value:=
 match i.agg with
 |true=>match Nat.ble (o+i.size) c.length with
  |true=>some (.agg ((c.drop o).take i.size).toArray)
  |false=>none
 |false=>nth c o
theorem SX {P:Program} {W:World} {b o:Nat} {c:List Value} {t:TypeId} {i:TI} {v:Value} (hr:Ip P t i=true) (hc: ∀j,j<c.length->W.cell? ⟨b,j,none⟩=c[j]?) (hv:DZ c o i=some v):
  (loadVar t ⟨b,o,none⟩).run P W= .ok v W:=by
 unfold DZ at hv
 simp only[loadVar,Sem.run_bind,Wd hr,Result.andThen_ok]
 split at hv
 ·rename_i ha
  split at hv
  ·rename_i hle
   cases hv
   have hle:o+i.size<=c.length:=Nat.le_of_ble_eq_true hle
   rw[ha]
   have:=EB (P:=P) (W:=W) (b:=b) (o:=o) (f:=fun j=>W.cell? ⟨b,o+j,none⟩) (fun _=>rfl) i.size 0 #[] ((c.drop o).take i.size) (by simp;omega) (fun j hj=>by
    rw[Nat.zero_add,hc _ (by omega),List.getElem?_take,if_pos hj,List.getElem?_drop])
   simp only[if_true,Sem.run_bind,NX hr,Result.andThen_ok,loadCells,this,Sem.run_pure,List.append_toArray,List.nil_append]
  ·cases hv
 ·rename_i ha
  rw[ha]
  rw[Bv] at hv
  have ho:o<c.length:=(List.getElem?_eq_some_iff.1 hv).1
  simp only[Bool.false_eq_true,if_false]
  simp[load,Sem.run,hc o ho,hv]
def BF (c:List Value) (o:Nat) (vs:List Value):List Value:=c.take o++vs++c.drop (o+vs.length)
def one:Value->Bool
 | .agg _=>false
 | .tuple _=>false
 |_=>true
def Dp:List Value->Bool
 |[]=>true
 |v::r=>match one v with
  |true=>Dp r
  |false=>false
theorem RU {P:Program} {W:World} {b o:Nat} {c:List Value} {ty:TypeId} {v:Value} (hb:W.heap[b]? =some (.cells c.toArray ty (0,0))) (ho:o<c.length) (hv:one v=true):
  ∃W',(store (⟨b,o,none⟩:Addr) v).run P W= .ok () W'/\Upd W W' b (.cells (c.set o v).toArray ty (0,0)):=by
 refine⟨W.setCell ⟨b,o,none⟩ v, ?_,rfl,rfl,rfl, ?_⟩
 ·have h1:W.cell? ⟨b,o,none⟩=some c[o]:=by rw[Gq hb];simp[ho]
  cases v<;>first|(simp[one] at hv;done)|simp[store,Sem.run,h1,Ra hb]
 ·simp only[World.setCell]
  have hlt:=(Array.getElem?_eq_some_iff.1 hb).1
  have hb':=(Array.getElem?_eq_some_iff.1 hb).2
  apply Array.ext_getElem?
  intro j
  rw[Array.getElem?_modify,Array.getElem?_setIfInBounds]
  by_cases e:b=j
  ·subst e
   simp[hlt,hb']
  ·simp[e]
theorem Mu (c:List Value) (k:Nat) (v:Value) (vs:List Value) (h:k<c.length):BF (c.set k v) (k+1) vs=BF c k (v::vs):=by
 unfold BF
 have h1:(c.set k v).take (k+1)=c.take k++[v]:=by
  rw[List.take_succ_eq_append_getElem (by simpa using h)]
  rw[List.take_set_of_le (Nat.le_refl _)]
  simp
 have h2:(c.set k v).drop (k+1+vs.length)=c.drop (k+(v::vs).length):=by
  rw[List.drop_set_of_lt (by omega)]
  congr 1
  simp;omega
 rw[h1,h2]
 simp
theorem Oz (c:List Value) (k:Nat):BF c k []=c:=by simp[BF]
theorem YS {W:World} {b:Nat} {o:Obj} (h:W.heap[b]? =some o):Upd W W b o:=by
 refine⟨rfl,rfl,rfl, ?_⟩
 have hlt:=(Array.getElem?_eq_some_iff.1 h).1
 have hb':=(Array.getElem?_eq_some_iff.1 h).2
 apply Array.ext_getElem?
 intro j
 rw[Array.getElem?_setIfInBounds]
 by_cases e:b=j
 ·subst e;simp[hlt,hb']
 ·simp[e]
theorem Upd.trans {W W1 W2:World} {b:Nat} {o o':Obj} (h:Upd W W1 b o) (h':Upd W1 W2 b o'):Upd W W2 b o':=by
 refine⟨h'.os.trans h.os,h'.tape.trans h.tape,h'.output.trans h.output, ?_⟩
 rw[h'.heap,h.heap]
 apply Array.ext_getElem?
 intro j
 simp only[Array.getElem?_setIfInBounds,Array.size_setIfInBounds]
 by_cases e:b=j<;>simp[e]
theorem Gp {P:Program} {b o:Nat} {ty:TypeId}: ∀(vs:List Value) (i:Nat) (c:List Value) (W:World),W.heap[b]? =some (.cells c.toArray ty (0,0))->o+i+vs.length<=c.length->Dp vs=true->
  ∃W',(storeCells ⟨b,o,none⟩ vs i).run P W= .ok () W'/\Upd W W' b (.cells (BF c (o+i) vs).toArray ty (0,0))
 |[],i,c,W,hb,_,_=>by
  rw[Oz]
  exact⟨W,by simp[storeCells],YS hb⟩
 |v::vs,i,c,W,hb,hl,ha=>by
  simp only[List.length_cons] at hl
  have hv:one v=true:=by unfold Dp at ha;split at ha<;>simp_all
  have hvs:Dp vs=true:=by unfold Dp at ha;split at ha<;>simp_all
  obtain⟨W1,h1,u1⟩:=RU (P:=P) (o:=o+i) hb (by omega) hv
  have hlt:=(Array.getElem?_eq_some_iff.1 hb).1
  have hb1:W1.heap[b]? =some (.cells (c.set (o+i) v).toArray ty (0,0)):=by rw[u1.heap,Array.getElem?_setIfInBounds,if_pos rfl,if_pos hlt]
  obtain⟨W2,h2,u2⟩:=Gp (P:=P) (o:=o) vs (i+1) _ W1 hb1 (by rw[List.length_set];omega) hvs
  refine⟨W2, ?_, ?_⟩
  ·simp only[storeCells,Sem.run_bind,Addr.add_none,h1,Result.andThen_ok,h2]
  ·rw[<-Mu c (o+i) v vs (by omega)]
   exact u1.trans u2
theorem FJ {P:Program} {W:World} {b o:Nat} {c:List Value} {ty t:TypeId} {i:TI} {v:Value} (hr:Ip P t i=true) (hb:W.heap[b]? =some (.cells c.toArray ty (0,0))) (hs:v.cells.toList.length=i.size) (hl:o+i.size<=c.length) (ha:Dp v.cells.toList=true):
  ∃W',(storeVar t ⟨b,o,none⟩ v).run P W= .ok () W'/\Upd W W' b (.cells (BF c o v.cells.toList).toArray ty (0,0)):=by
 obtain⟨W',h1,h2⟩:=Gp (P:=P) (o:=o) v.cells.toList 0 c W hb (by omega) ha
 refine⟨W', ?_,by simpa using h2⟩
 have:v.cells.size=i.size:=by simpa using hs
 simp[storeVar,NX hr,this,h1]
end Go.Am
namespace Go.Am
open Go Go.RowKit
def Fw (r:Option Nat):Fence:= { Fence.wide with round:=r }
abbrev Env:=List (Nat×Value)
def ov (env:Env) (a:Act):Act:=env.foldr (fun p a=>a.put (some p.1) p.2) a
def WJ:Env->Nat->Option Value
 |[],_=>none
 |(d,v)::r,t=>match Nat.beq d t with
  |true=>some v
  |false=>WJ r t
def evO (N:Nat) (env:Env):Operand->Option Value
 | .tmp t=>match Nat.ble (t+1) N with
  |true=>WJ env t
  |false=>none
 | .const v=>some v
 | .global g=>some (.pointer (some ⟨g,0,none⟩))
 | .func f=>some (.func (.func f) #[] #[])
theorem ES (d:Nat) (v:Value) (env:Env) (a:Act):ov ((d,v)::env) a=(ov env a).put (some d) v:=rfl
theorem We (env:Env) (a:Act):(ov env a).tmps.size=a.tmps.size:=by
 induction env with
 |nil=>rfl
 |cons p r ih=>rw[<-ih];simp[ov,Act.put]
theorem B7 (env:Env) (a:Act):(ov env a).defers=a.defers:=by
 induction env with
 |nil=>rfl
 |cons p r ih=>rw[<-ih];simp[ov,Act.put]
theorem Lt (env:Env) (a b:Act) (h:a.tmps=b.tmps):(ov env a).tmps=(ov env b).tmps:=by
 induction env with
 |nil=>exact h
 |cons p r ih=>obtain⟨d,v⟩:=p;simp only[ES,Act.put,ih]
theorem DQ {env:Env} {a:Act} {t:Nat} {v:Value} (h:WJ env t=some v) (ht:t<a.tmps.size):(ov env a).tmps[t]? =some v:=by
 induction env with
 |nil=>cases h
 |cons p r ih=>
  obtain⟨d,u⟩:=p
  unfold WJ at h
  rw[ES]
  simp only[Act.put,Array.getElem?_setIfInBounds,We]
  split at h
  ·rename_i e
   have:d=t:=Nat.eq_of_beq_eq_true e
   subst this
   cases h
   simp[ht]
  ·rename_i e
   have:d≠t:=Nat.ne_of_beq_eq_false e
   simp[this,ih h]
theorem FI {N:Nat} {env:Env} {t:Nat} {v:Value} (h:evO N env (.tmp t)=some v):t<N/\WJ env t=some v:=by
 have h':(match Nat.ble (t+1) N with|true=>WJ env t|false=>none)=some v:=h
 split at h'
 ·rename_i hle;exact⟨Nat.le_of_ble_eq_true hle,h'⟩
 ·cases h'
theorem AB {N:Nat} {env:Env} {a:Act} (ha:a.tmps.size=N) (x:Operand) (v:Value) (h:evO N env x=some v):(ov env a).eval x=v:=by
 cases x with
 |tmp t=>
  obtain⟨ht,h⟩:=FI h
  have:=DQ (a:=a) h (by omega)
  simp only[Act.eval,Array.getD_eq_getD_getElem?,this,Option.getD_some]
 |const v=>simpa[evO,Act.eval] using h
 |global g=>simpa[evO,Act.eval] using h
 |func f=>simpa[evO,Act.eval] using h
def Aw (ops:List Oper) (N:Nat) (env:Env) (o:Oper):Option Bool:=
 match o.guard with
 |none=>some true
 |some (j,want)=>match nth ops j with
  |none=>none
  |some oj=>match oj.dst with
   |none=>none
   |some d=>match evO N env (.tmp d) with
    |some (.bool b)=>match b,want with
     |true,true=>some true
     |false,false=>some true
     |true,false=>some false
     |false,true=>some false
    |some (.tuple _)=>some false
    |_=>none
theorem Es {ops:List Oper} {N:Nat} {env:Env} {o:Oper} {b:Bool} {a:Act} (ha:a.tmps.size=N) (h:Aw ops N env o=some b):
  Region.wanted o (yielded ops.toArray (ov env a).tmps)=b:=by
 unfold Aw at h
 unfold Region.wanted
 split at h
 ·rename_i hg;rw[hg];simpa using h
 ·rename_i j want hg
  rw[hg]
  split at h
  ·cases h
  ·rename_i oj hj
   split at h
   ·cases h
   ·rename_i d hd
    split at h
    ·rename_i b' hb
     have hv:=AB ha _ _ hb
     obtain⟨ht,hb⟩:=FI hb
     have:=DQ (a:=a) hb (by omega)
     rw[Bv] at hj
     have hy:yielded ops.toArray (ov env a).tmps j=some b':=by simp[yielded,hj,hd,this]
     simp only[hy]
     revert h
     cases b'<;>cases want<;>simp
    ·rename_i u hb
     obtain⟨ht,hb⟩:=FI hb
     have:=DQ (a:=a) hb (by omega)
     rw[Bv] at hj
     have hy:yielded ops.toArray (ov env a).tmps j=none:=by simp[yielded,hj,hd,this]
     simp only[hy]
     cases h
     rfl
    ·cases h
section
variable {r:Option Nat} {n:Nat} {P:Program} {W0:World} {N:Nat} {D:List Deferred} {A:World->Prop}
structure WL (r:Option Nat) (n:Nat) (P:Program) (N:Nat) (D:List Deferred) (ops:List Oper) (Q:Exit->Act->World->Prop) (l:List Oper) (env:Env) (A:World->Prop):Prop where
 out: ∀(a:Act) (W:World),a.tmps.size=N->a.defers=D->A W->wpListIn (Fw r) n P ops.toArray Q l (ov env a) W
structure WC (r:Option Nat) (n:Nat) (P:Program) (N:Nat) (D:List Deferred) (c:Code) (Q:Exit->Act->World->Prop) (env:Env) (A:World->Prop):Prop where
 out: ∀(a:Act) (W:World),a.tmps.size=N->a.defers=D->A W->c.wpIn (Fw r) n P Q (ov env a) W
structure NE (N:Nat) (D:List Deferred) (Q:Exit->Act->World->Prop) (e:Exit) (env:Env) (A:World->Prop):Prop where
 out: ∀(a:Act) (W:World),a.tmps.size=N->a.defers=D->A W->Q e (ov env a) W
variable {ops:List Oper} {Q:Exit->Act->World->Prop} {o:Oper} {rest:List Oper} {env:Env} {bxs:List Bx}
theorem Kj (h:NE N D Q .normal env A):WL r n P N D ops Q [] env A:= .mk fun a W h1 h2 h3=>h.out a W h1 h2 h3
theorem Et {id:Nat} {l:List Oper} (h:WL r n P N D l Q l env A):WC r n P N D (.region id l.toArray false) Q env A:=
 .mk fun a W h1 h2 h3=>wpIn_region_lit (h.out a W h1 h2 h3)
theorem Ba {x y:Code} (h:WC r n P N D x (Exit.then (y.wpIn (Fw r) n P Q) Q) env A):WC r n P N D (.seq x y) Q env A:=
 .mk fun a W h1 h2 h3=>wpIn_seq (h.out a W h1 h2 h3)
theorem KD {y:Code} {Q':Exit->Act->World->Prop} (h:WC r n P N D y Q env A):NE N D (Exit.then (y.wpIn (Fw r) n P Q) Q') .normal env A:= .mk h.out
theorem ZR (h:NE N D Q .normal env A):WC r n P N D .skip Q env A:= .mk fun a W h1 h2 h3=>wpIn_skip (h.out a W h1 h2 h3)
theorem Z5 {id:Nat} (h:NE N D Q (.exit id) env A):WC r n P N D (.exit id) Q env A:= .mk fun a W h1 h2 h3=>wpIn_exit (h.out a W h1 h2 h3)
theorem dD (h:NE N D Q .ret env A):WC r n P N D .ret Q env A:= .mk fun a W h1 h2 h3=>wpIn_ret (h.out a W h1 h2 h3)
theorem ID {id:Nat} {c:Code} (h:WC r n P N D c (Exit.inBlock id Q) env A):WC r n P N D (.block id c) Q env A:= .mk fun a W h1 h2 h3=>wpIn_block (h.out a W h1 h2 h3)
theorem RE {K:Act->World->Prop} {id:Nat} (h:NE N D Q (.exit id) env A):NE N D (Exit.then K Q) (.exit id) env A:= .mk h.out
theorem To {K:Act->World->Prop} (h:NE N D Q .ret env A):NE N D (Exit.then K Q) .ret env A:= .mk h.out
theorem MW {id:Nat} (h:NE N D Q .normal env A):NE N D (Exit.inBlock id Q) .normal env A:= .mk h.out
theorem Rw {id:Nat} (h:NE N D Q .ret env A):NE N D (Exit.inBlock id Q) .ret env A:= .mk h.out
theorem PT {id:Nat} (h:NE N D Q .normal env A):NE N D (Exit.inBlock id Q) (.exit id) env A:= .mk fun a W h1 h2 h3=>by
 simp only[Exit.inBlock,if_true];exact h.out a W h1 h2 h3
theorem J9 {id id':Nat} (hne:Nat.beq id' id=false) (h:NE N D Q (.exit id') env A):NE N D (Exit.inBlock id Q) (.exit id') env A:= .mk fun a W h1 h2 h3=>by
 have:id'≠id:=Nat.ne_of_beq_eq_false hne
 simp only[Exit.inBlock,if_neg this];exact h.out a W h1 h2 h3
theorem Lq {c:Operand} {x y:Code} (hc:evO N env c=some (.bool true)) (h:WC r n P N D x Q env A):WC r n P N D (.cond c x y) Q env A:=
 .mk fun a W h1 h2 h3=>wpIn_cond_true (AB h1 _ _ hc) (h.out a W h1 h2 h3)
theorem JS {c:Operand} {x y:Code} (hc:evO N env c=some (.bool false)) (h:WC r n P N D y Q env A):WC r n P N D (.cond c x y) Q env A:=
 .mk fun a W h1 h2 h3=>wpIn_cond_false (AB h1 _ _ hc) (h.out a W h1 h2 h3)
theorem Ag {c:Operand} {x y:Code} {b:Bool} (hc:evO N env c=some (.bool b)) (ht:b=true->WC r n P N D x Q env A) (hf:b=false->WC r n P N D y Q env A):WC r n P N D (.cond c x y) Q env A:=by
 cases b
 ·exact JS hc (hf rfl)
 ·exact Lq hc (ht rfl)
theorem F4 {a:Act} {t:Nat} {v:Value} (h:a.tmps[t]? =some v):a.put (some t) v=a:=by
 have:a.tmps.setIfInBounds t v=a.tmps:=by
  apply Array.ext_getElem?
  intro j
  rw[Array.getElem?_setIfInBounds]
  by_cases e:t=j
  ·subst e
   rw[if_pos rfl,h]
   rw[if_pos (Array.getElem?_eq_some_iff.1 h).1]
  ·rw[if_neg e]
 simp[Act.put,this]
theorem FG {env':Env} {a:Act} (h: ∀p∈env',p.1<a.tmps.size->a.tmps[p.1]? =some p.2):ov env' a=a:=by
 induction env' with
 |nil=>rfl
 |cons p l ih=>
  obtain⟨d,v⟩:=p
  rw[ES,ih (fun p hp=>h p (List.mem_cons_of_mem _ hp))]
  by_cases hd:d<a.tmps.size
  ·exact F4 (h (d,v) List.mem_cons_self hd)
  ·simp only[Act.put]
   rw[Array.setIfInBounds_eq_of_size_le (by omega)]
theorem AI (t:Nat) {b:Bool} (ht:evO N env (.tmp t)=some (.bool b)) (h1:b=true->WL r n P N D ops Q rest ((t, .bool true)::env) A) (h2:b=false->WL r n P N D ops Q rest ((t, .bool false)::env) A):
  WL r n P N D ops Q rest env A:= .mk fun a W ha hd hp=>by
 obtain⟨hlt,ht⟩:=FI ht
 have:=DQ (a:=a) ht (by omega)
 cases b
 ·have h:=(h2 rfl).out a W ha hd hp
  rwa [ES,F4 this] at h
 ·have h:=(h1 rfl).out a W ha hd hp
  rwa [ES,F4 this] at h
theorem Ix {T:Tbl} {ρ:Operand->Option Value} {v:Value} (h:AC T ρ o.op=some v): ∀c,o.op≠ .defer c:=fun c e=>by rw[e] at h;cases h
theorem I5 (ρ:Operand->Value) (h: ∀c,o.op≠ .defer c):o.semAt r ρ=execOp ρ o:=by
 cases r with
 |none=>rfl
 |some l=>exact Oper.semAt_some l ρ o h
theorem BO {a:Act} {W:World} (hg:Aw ops N env o=some true) (ha:a.tmps.size=N) (hnd: ∀c,o.op≠ .defer c)
  (h:o.uponIn (Fw r) n P (ov env a) (wpListIn (Fw r) n P ops.toArray Q rest) Q ((execOp (ov env a).eval o).run P W)):wpListIn (Fw r) n P ops.toArray Q (o::rest) (ov env a) W:=by
 unfold wpListIn
 rw[Es ha hg,if_pos rfl]
 refine⟨fun _ _=>trivial, ?_⟩
 show o.uponIn (Fw r) n P (ov env a) (wpListIn (Fw r) n P ops.toArray Q rest) Q ((o.semAt r (ov env a).eval).run P W)
 rw[I5 _ hnd]
 exact h
theorem BY {T:Tbl} {d:Nat} {v:Value} (hT:okB P T=true) (hg:Aw ops N env o=some true) (hd:o.dst=some d) (hv:AC T (evO N env) o.op=some v)
  (h:WL r n P N D ops Q rest ((d,v)::env) A):WL r n P N D ops Q (o::rest) env A:= .mk fun a W h1 h2 h3=>by
 refine BO hg h1 (Ix hv) ?_
 rw[Lc hT (AB h1) hv]
 simp only[Oper.uponIn,hd]
 exact h.out a W h1 h2 h3
theorem Af {d:Nat} (hg:Aw ops N env o=some false) (hd:o.dst=some d) (h:WL r n P N D ops Q rest ((d,undef)::env) A):WL r n P N D ops Q (o::rest) env A:= .mk fun a W h1 h2 h3=>by
 unfold wpListIn
 rw[Es h1 hg,if_neg (by simp),hd]
 exact⟨fun _ _=>trivial,h.out a W h1 h2 h3⟩
theorem CP {d:Nat} {v:Value} (hg:Aw ops N env o=some true) (hd:o.dst=some d) (hnd: ∀c,o.op≠ .defer c)
  (hv: ∀(ρ:Operand->Value) (W:World),(∀x u,evO N env x=some u->ρ x=u)->A W->(execOp ρ o).run P W= .ok (.value v) W)
  (h:WL r n P N D ops Q rest ((d,v)::env) A):WL r n P N D ops Q (o::rest) env A:= .mk fun a W h1 h2 h3=>by
 refine BO hg h1 hnd ?_
 rw[hv _ W (AB h1) h3]
 simp only[Oper.uponIn,hd]
 exact h.out a W h1 h2 h3
theorem VV {ρ:Operand->Value} {t u:TypeId} {x y:Operand} {k:IntKind} {a b:Int} (ho:o.op= .binOp .rem t x y u) (hx:ρ x= .int k a) (hy:ρ y= .int k b) (hb:b≠0) (W:World):(execOp ρ o).run P W= .ok (.value (.int k (a.tmod b))) W:=by
 simp[execOp,ho,hx,hy,eqGuard,binOp,Op.intDiv,hb]
theorem VN {ρ:Operand->Value} {t u:TypeId} {x y:Operand} {k:IntKind} {a b:Int} (ho:o.op= .binOp .quo t x y u) (hx:ρ x= .int k a) (hy:ρ y= .int k b) (hb:b≠0) (W:World):(execOp ρ o).run P W= .ok (.value (.int k (k.wrap (a.tdiv b)))) W:=by
 simp[execOp,ho,hx,hy,eqGuard,binOp,Op.intDiv,hb]
theorem FC {d:Nat} {t u:TypeId} {x y:Operand} {k:IntKind} {a b:Int} (hg:Aw ops N env o=some true) (hd:o.dst=some d) (ho:o.op= .binOp .rem t x y u)
  (hx:evO N env x=some (.int k a)) (hy:evO N env y=some (.int k b)) (hb:b≠0)
  (h:WL r n P N D ops Q rest ((d, .int k (a.tmod b))::env) A):WL r n P N D ops Q (o::rest) env A:=
 CP hg hd (fun c e=>by rw[ho] at e;cases e) (fun _ W hρ _=>VV ho (hρ _ _ hx) (hρ _ _ hy) hb W) h
theorem Ef {d:Nat} {t u:TypeId} {x y:Operand} {k:IntKind} {a b:Int} (hg:Aw ops N env o=some true) (hd:o.dst=some d) (ho:o.op= .binOp .quo t x y u)
  (hx:evO N env x=some (.int k a)) (hy:evO N env y=some (.int k b)) (hb:b≠0)
  (h:WL r n P N D ops Q rest ((d, .int k (k.wrap (a.tdiv b)))::env) A):WL r n P N D ops Q (o::rest) env A:=
 CP hg hd (fun c e=>by rw[ho] at e;cases e) (fun _ W hρ _=>VN ho (hρ _ _ hx) (hρ _ _ hy) hb W) h
theorem JO {T:Tbl} {i:TI} {ρ:Operand->Value} {t:TypeId} {x y:Operand} {k:IntKind} {b off len cap:Nat} {z:Int} (hT:okB P T=true) (ho:o.op= .indexAddr t x y) (ht:Cw T t=some i) (hk:i.kind=2)
  (hx:ρ x= .slice (some ⟨b,off,none⟩) len cap) (hy:ρ y= .int k z) (h0:0<=z) (h1:z<len) (W:World):(execOp ρ o).run P W= .ok (.value (.pointer (some ⟨b,off+z.toNat*i.elemSize,none⟩))) W:=by
 obtain⟨hu,hs⟩:=Fb (BA hT ht) hk
 simp[execOp,ho,hx,hy,Instr.indexAt,asIntOf,run_underlying hu,Ey hs,h0,h1,Addr.add_none]
theorem Rj {T:Tbl} {i:TI} {d:Nat} {t:TypeId} {x y:Operand} {k:IntKind} {b off len cap:Nat} {z:Int} (hT:okB P T=true) (hg:Aw ops N env o=some true) (hd:o.dst=some d) (ho:o.op= .indexAddr t x y)
  (ht:Cw T t=some i) (hk:i.kind=2) (hx:evO N env x=some (.slice (some ⟨b,off,none⟩) len cap)) (hy:evO N env y=some (.int k z)) (h0:0<=z) (h1:z<len)
  (h:WL r n P N D ops Q rest ((d, .pointer (some ⟨b,off+z.toNat*i.elemSize,none⟩))::env) A):WL r n P N D ops Q (o::rest) env A:=
 CP hg hd (fun c e=>by rw[ho] at e;cases e) (fun _ W hρ _=>JO hT ho ht hk (hρ _ _ hx) (hρ _ _ hy) h0 h1 W) h
theorem TR {ρ:Operand->Value} {t:TypeId} {x:Operand} {a:Addr} {v:Value} {W:World} (ho:o.op= .load t x) (hx:ρ x= .pointer (some a)) (hl:(loadVar t a).run P W= .ok v W):(execOp ρ o).run P W= .ok (.value v) W:=by
 simp[execOp,ho,hx,Instr.loadAt,Instr.sureAddr,hl]
theorem QW {d:Nat} {t:TypeId} {x:Operand} {a:Addr} {v:Value} (hg:Aw ops N env o=some true) (hd:o.dst=some d) (ho:o.op= .load t x)
  (hx:evO N env x=some (.pointer (some a))) (hl: ∀W,A W->(loadVar t a).run P W= .ok v W)
  (h:WL r n P N D ops Q rest ((d,v)::env) A):WL r n P N D ops Q (o::rest) env A:=
 CP hg hd (fun c e=>by rw[ho] at e;cases e) (fun _ W hρ hp=>TR ho (hρ _ _ hx) (hl W hp)) h
theorem No {T:Tbl} {i:TI} {t:TypeId} {B:Bx} {off k:Nat} {v:Value} (hT:okB P T=true) (ht:Cw T t=some i) (hk:nth bxs k=some B) (hon:B.row=true) (hv:DZ B.cells off i=some v) (W:World) (hp:Hp W0 bxs W):
  (loadVar t ⟨B.b,off,none⟩).run P W= .ok v W:=by
 rw[Bv] at hk
 obtain⟨h1,h2⟩:=Bx.row_on hon
 have h3:=(hp.at_ _ _ hk h1).1
 rw[h2] at h3
 exact SX (BA hT ht) (fun j _=>Gq h3) hv
theorem WG (k:Nat) {T:Tbl} {i:TI} {d:Nat} {t:TypeId} {x:Operand} {B:Bx} {off:Nat} {v:Value} (hT:okB P T=true) (hg:Aw ops N env o=some true) (hd:o.dst=some d) (ho:o.op= .load t x) (ht:Cw T t=some i)
  (hk:nth bxs k=some B) (hx:evO N env x=some (.pointer (some ⟨B.b,off,none⟩))) (hon:B.row=true) (hv:DZ B.cells off i=some v)
  (h:WL r n P N D ops Q rest ((d,v)::env) (Hp W0 bxs)):WL r n P N D ops Q (o::rest) env (Hp W0 bxs):=
 QW hg hd ho hx (No hT ht hk hon hv) h
theorem UB (k:Nat) {T:Tbl} {i:TI} {t:TypeId} {x y:Operand} {B:Bx} {off:Nat} {v:Value} (hT:okB P T=true) (hg:Aw ops N env o=some true) (hd:o.dst=none) (ho:o.op= .store t x y) (ht:Cw T t=some i)
  (hk:nth bxs k=some B) (hx:evO N env x=some (.pointer (some ⟨B.b,off,none⟩))) (hon:B.row=true) (hy:evO N env y=some v)
  (hs:Nat.beq v.cells.toList.length i.size=true) (hl:Nat.ble (off+i.size) B.cells.length=true) (h1:Dp v.cells.toList=true)
  (h:WL r n P N D ops Q rest env (Hp W0 (bxs.set k { B with cells:=BF B.cells off v.cells.toList }))):WL r n P N D ops Q (o::rest) env (Hp W0 bxs):= .mk fun a W ha hd' hp=>by
 rw[Bv] at hk
 refine BO hg ha (fun c e=>by rw[ho] at e;cases e) ?_
 have h3:=(hp.at_ _ _ hk (Bx.row_on hon).1).1
 rw[(Bx.row_on hon).2] at h3
 obtain⟨W',hr,hu⟩:=FJ (P:=P) (BA hT ht) h3 (Nat.eq_of_beq_eq_true hs) (Nat.le_of_ble_eq_true hl) h1
 have:(execOp (ov env a).eval o).run P W= .ok .skip W':=by
  simp[execOp,ho,Instr.storeAt,Instr.sureAddr,AB ha _ _ hx,AB ha _ _ hy,hr]
 rw[this]
 simp only[Oper.uponIn,hd]
 exact h.out a W' ha hd' (hp.upd hk hon hu)
theorem B6 {d:Nat} {t:TypeId} {z:Value} (hg:Aw ops N env o=some true) (hd:o.dst=some d) (ho:o.op= .alloc t) (hz: ∀W,(zeroValue t).run P W= .ok z W)
  (h: ∀b,WL r n P N D ops Q rest ((d, .pointer (some ⟨b,0,none⟩))::env) (Hp W0 (bxs++[⟨b,t,z.cells.toList,true,none⟩]))):WL r n P N D ops Q (o::rest) env (Hp W0 bxs):= .mk fun a W ha hd' hp=>by
 refine BO hg ha (fun c e=>by rw[ho] at e;cases e) ?_
 have:(execOp (ov env a).eval o).run P W= .ok (.value (.pointer (some ⟨W.heap.size,0,none⟩))) (W.alloc (.cells z.cells t)):=by
  simp[execOp,ho,Instr.alloc,hz,newVar,newRow]
 rw[this]
 simp only[Oper.uponIn,hd]
 have h':=hp.alloc t z.cells.toList
 exact(h W.heap.size).out a _ ha hd' (by simpa using h')
theorem Ov {d:Nat} {t:TypeId} {x:Operand} {v:Value} (hg:Aw ops N env o=some true) (hd:o.dst=some d) (ho:o.op= .box t x) (hx:evO N env x=some v)
  (h: ∀b,WL r n P N D ops Q rest ((d, .pointer (some ⟨b,0,none⟩))::env) (Hp W0 (bxs++[⟨b,t,v.cells.toList,true,none⟩]))):WL r n P N D ops Q (o::rest) env (Hp W0 bxs):= .mk fun a W ha hd' hp=>by
 refine BO hg ha (fun c e=>by rw[ho] at e;cases e) ?_
 have:(execOp (ov env a).eval o).run P W= .ok (.value (.pointer (some ⟨W.heap.size,0,none⟩))) (W.alloc (.cells v.cells t)):=by
  simp[execOp,ho,Instr.box,newVar,newRow,AB ha _ _ hx]
 rw[this]
 simp only[Oper.uponIn,hd]
 have h':=hp.alloc t v.cells.toList
 exact(h W.heap.size).out a _ ha hd' (by simpa using h')
def AS (P:Program) (f:Nat):Bool:=
 match P.funcs[f]? with
 | some fn => fn.body.isSome && !(fn.name == "runtime.NumGoroutine")
 |none=>false
theorem G9 {f:Nat} (h:AS P f=true) (args:Array Value) (W:World):(callFunc f args).run P W= .ok (.enter f args) W:=by
 unfold AS at h
 cases hf:P.funcs[f]? with
 |none=>rw[hf] at h;cases h
 |some fn=>
  rw[hf] at h
  simp only[Bool.and_eq_true,Bool.not_eq_true'] at h
  obtain⟨h1,h2⟩:=h
  cases hb:fn.body with
  |none=>rw[hb] at h1;cases h1
  |some c=>
   have : fn.name ≠ "runtime.NumGoroutine" := by simpa using h2
   simp[callFunc,hf,this,hb]
structure Ae (P:Program) (g:Nat) (args:Array Value) (W:World) {X:Type} (val:X->Value) (Φ:X->Prop) (nb:X->List Bx):Prop where
 out:Calls P g args W fun e W'=> ∃x,e= .returned (val x)/\Φ x/\Below W.heap.size W W'/\Au W W' (nb x)
theorem Ed {g:Nat} {args:Array Value} {W:World} {R:Ending->World->Prop} (h:Calls P g args W R):CallsIn (Fw r) n P g args W R:=by
 have:=callsIn_wide (n:=n)|>.2 h
 exact⟨this.1,this.2⟩
theorem IJ {ρ:Operand->Value} {c:Call} {f:Operand} {g:Nat} {capt vs:List Value} {W:World} (ho:o.op= .call c) (hc:c.callee= .value f) (hf:ρ f= .func (.func g) #[] capt.toArray) (ha:c.args.map ρ=vs.toArray) (hE:AS P g=true):
  (execOp ρ o).run P W= .ok (.enter g (vs++capt).toArray) W:=by
 simp only[execOp,ho,resolve,hc,hf,ha,Sem.run_bind,Deferred.ofValue,Sem.run_pure,Result.andThen_ok,invoke,G9 hE]
 simp
theorem Wk {c:Call} {f:Operand} {g d:Nat} {capt vs:List Value} {X:Type} {val:X->Value} {Φ:X->Prop} {nb:X->List Bx}
  (hg:Aw ops N env o=some true) (hd:o.dst=some d) (ho:o.op= .call c) (hc:c.callee= .value f) (hf:evO N env f=some (.func (.func g) #[] capt.toArray)) (ha:Cn (evO N env) c.args.toList=some vs) (hE:AS P g=true)
  (hC: ∀W,Hp W0 bxs W->Ae P g (vs++capt).toArray W val Φ nb)
  (h: ∀x,Φ x->WL r n P N D ops Q rest ((d,val x)::env) (Hp W0 (bxs++nb x))):WL r n P N D ops Q (o::rest) env (Hp W0 bxs):= .mk fun a W h1 h2 hp=>by
 refine BO hg h1 (fun c e=>by rw[ho] at e;cases e) ?_
 rw[IJ ho hc (AB h1 _ _ hf) (E5 (AB h1) ha) hE]
 simp only[Oper.uponIn,hd]
 refine⟨fun hx=>(by cases hx),Ed ((hC W hp).out.mono ?_)⟩
 rintro e W' ⟨x,rfl,hx,hb,hn⟩
 exact(h x hx).out a W' h1 h2 (hp.append hb hn)
theorem Bz {c:Call} {f:Operand} {g d:Nat} {capt vs:List Value} {v:Value}
  (hg:Aw ops N env o=some true) (hd:o.dst=some d) (ho:o.op= .call c) (hc:c.callee= .value f) (hf:evO N env f=some (.func (.func g) #[] capt.toArray)) (ha:Cn (evO N env) c.args.toList=some vs) (hE:AS P g=true)
  (hC: ∀W,Hp W0 bxs W->Ae P g (vs++capt).toArray W (fun _:Unit=>v) (fun _=>True) (fun _=>[]))
  (h:WL r n P N D ops Q rest ((d,v)::env) (Hp W0 bxs)):WL r n P N D ops Q (o::rest) env (Hp W0 bxs):=
 Wk hg hd ho hc hf ha hE hC (fun _ _=>by rw[List.append_nil];exact h)
def LJ:Nat->List Value->Env
 |_,[]=>[]
 |i,v::r=>(i,v)::LJ (i+1) r
theorem HE: ∀(l:List Value) (i:Nat) (p:Nat×Value),p∈LJ i l->i<=p.1/\l[p.1-i]? =some p.2
 |[],_,_,h=>by cases h
 |v::l,i,p,h=>by
  rcases List.mem_cons.1 h with rfl|h
  ·simp
  ·obtain⟨h1,h2⟩:=HE l (i+1) p h
   refine⟨by omega, ?_⟩
   rw[show p.1-i=(p.1-(i+1))+1 by omega]
   simpa using h2
inductive Res (P:Program) (T:Tbl) (env:Env) (bxs:List Bx) (N:Nat):ResultVar->Value->Prop
 |tmp {t:Nat} {v:Value} (h:evO N env (.tmp t)=some v):Res P T env bxs N (.tmp t) v
 |cell {t ty:Nat} {v:Value} {i:TI} {B:Bx} {off:Nat} (k:Nat) (hi:Cw T ty=some i) (hk:nth bxs k=some B) (h:evO N env (.tmp t)=some (.pointer (some ⟨B.b,off,none⟩))) (hon:B.row=true) (hv:DZ B.cells off i=some v):Res P T env bxs N (.cell t ty) v
def N7 (tmps:Array Value):ResultVar->Sem Value
 | .tmp t=>pure (tmps.getD t undef)
 | .cell a t=>do loadVar t (<-asAddr (tmps.getD a undef))
theorem Res.run {T:Tbl} {rv:ResultVar} {v:Value} {a:Act} {W:World} (hT:okB P T=true) (h:Res P T env bxs N rv v) (ha:a.tmps.size=N) (hp:Hp W0 bxs W):
  (N7 (ov env a).tmps rv).run P W= .ok v W:=by
 cases h with
 |tmp h=>have:=AB ha _ _ h;simp only[Act.eval] at this;simp[N7,this]
 |cell k hi hk h hon hv=>
  have:=AB ha _ _ h
  simp only[Act.eval] at this
  simp only[N7,Sem.run_bind,this,asAddr,Sem.run_pure,Result.andThen_ok]
  exact No hT hi hk hon hv W hp
theorem Lp {fn:Func} (h:fn.results= #[]) (tmps:Array Value) (W:World):(results fn tmps).run P W= .ok (.tuple #[]) W:=by
 simp[results,h]
theorem SY {f:ResultVar->Sem Value} {W:World}: ∀(l:List ResultVar) (vs:List Value),l.length=vs.length->(∀i (h:i<l.length) (h':i<vs.length),(f l[i]).run P W= .ok vs[i] W)->(l.mapM f:Sem (List Value)).run P W= .ok vs W
 |[],[],_,_=>by simp
 |x::l,v::vs,hl,h=>by
  have h0:=h 0 (by simp) (by simp)
  simp only[List.getElem_cons_zero] at h0
  have ih:=SY l vs (by simpa using hl) (fun i hi hi'=>by have:=h (i+1) (by simpa using hi) (by simpa using hi');simpa using this)
  simp[List.mapM_cons,h0,ih]
 |[],_::_,hl,_=>by simp at hl
 |_::_,[],hl,_=>by simp at hl
theorem Mr {fn:Func} {T:Tbl} {rvs:List ResultVar} {vs:List Value} {a:Act} {W:World} (hT:okB P T=true) (hr:fn.results=rvs.toArray) (hl:rvs.length=vs.length) (h: ∀i (h:i<rvs.length) (h':i<vs.length),Res P T env bxs N rvs[i] vs[i]) (ha:a.tmps.size=N) (hp:Hp W0 bxs W):
  (results fn (ov env a).tmps).run P W= .ok (if h:vs.length=1 then vs[0] else .tuple vs.toArray) W:=by
 have hm:(fn.results.mapM (N7 (ov env a).tmps):Sem (Array Value)).run P W= .ok vs.toArray W:=by
  rw[hr]
  simp only[List.mapM_toArray,Sem.run_map]
  rw[SY rvs vs hl (fun i hi hi'=>Res.run (a:=a) (W:=W) hT (h i hi hi') ha hp)]
  simp
 have he:results fn (ov env a).tmps=(do let vs <-fn.results.mapM (N7 (ov env a).tmps);pure (if h:vs.size=1 then vs[0] else .tuple vs)):=by
  unfold results
  congr 1
 rw[he]
 simp only[Sem.run_bind,hm,Result.andThen_ok,Sem.run_pure]
 congr 1
end
end Go.Am
namespace Go.Am
open Go Go.RowKit
section
variable {n:Nat} {P:Program} {W0:World} {N:Nat} {env:Env} {bxs:List Bx}
structure Hx (P:Program) (fn:Func) (W0:World) {X:Type} (val:X->Value) (Φ:X->Prop) (nb:X->List Bx) (e:Exit) (a:Act) (w:World):Prop where
 out:bodyPostM (Fw none) 0 P fn (fun e W'=> ∃x,e= .returned (val x)/\Φ x/\Below W0.heap.size W0 W'/\Au W0 W' (nb x)) e a w
theorem Ab {f:Nat} {fn:Func} {c:Code} {args:List Value} {X:Type} {val:X->Value} {Φ:X->Prop} {nb:X->List Bx}
  (hf:P.funcs[f]? =some fn) (hb:fn.body=some c) (hN:fn.ntmps=N) (hl:Nat.ble args.length N=true)
  (h:WC none 0 P N [] c (Hx P fn W0 val Φ nb) (LJ 0 args) (Hp W0 [])):Ae P f args.toArray W0 val Φ nb:=by
 have hl:args.length<=N:=Nat.le_of_ble_eq_true hl
 have h1:=h.out { tmps:=args.toArray++Array.replicate (fn.ntmps-args.toArray.size) undef,defers:=[] } W0 (by simp[hN];omega) rfl (Hp.start W0)
 rw[FG] at h1
 ·refine⟨callsIn_wide (n:=0)|>.1 (callsIn_of_wp_marks hf hb trivial (wpIn_mono (Q:=Hx P fn W0 val Φ nb) h1 ?_))⟩
  intro e a w h
  exact h.out
 ·intro p hp _
  obtain⟨_,h2⟩:=HE args 0 p hp
  rw[Nat.sub_zero] at h2
  have hlt:=(List.getElem?_eq_some_iff.1 h2).1
  rw[Array.getElem?_append_left (by simpa using hlt)]
  simpa using h2
theorem OU {fn:Func} {T:Tbl} {rvs:List ResultVar} {vs:List Value} {X:Type} {val:X->Value} {Φ:X->Prop} {nb:X->List Bx} (hT:okB P T=true) (hr:fn.results=rvs.toArray) (hl:rvs.length=vs.length)
  (hres: ∀i (h:i<rvs.length) (h':i<vs.length),Res P T env bxs N rvs[i] vs[i])
  (x:X) (hv:(if h:vs.length=1 then vs[0] else .tuple vs.toArray)=val x) (hx:Φ x) (hnb: ∀W,Hp W0 bxs W->Au W0 W (nb x)):NE N [] (Hx P fn W0 val Φ nb) .ret env (Hp W0 bxs):= .mk fun a W ha hd hp=>by
 refine .mk ?_
 show LeavesInM (Fw none) 0 P fn (ov env a).tmps _ (ov env a).defers .returning W
 rw[B7,hd]
 exact⟨_,Mr hT hr hl hres ha hp,x,by rw[hv],hx,hp.below,hnb W hp⟩
def gH (d:Nat):Bx:=⟨d,0,[],true,some (.obj (.deferred none))⟩
def BL (d:Nat):Bx:=⟨d,0,[],true,some (.obj (.deferred (some [])))⟩
def Dz (d:Nat):Deferred:= { target:= .collected d,args:= #[] }
theorem Co (k:Nat) {d:Nat} {D:List Deferred} {fn:Func} {X:Type} {val:X->Value} {Φ:X->Prop} {nb:X->List Bx} (hk:nth bxs k=some (BL d))
  (h:NE N D (Hx P fn W0 val Φ nb) .ret env (Hp W0 (bxs.set k (gH d)))):NE N (Dz d::D) (Hx P fn W0 val Φ nb) .ret env (Hp W0 bxs):= .mk fun a W ha hd hp=>by
 refine .mk ?_
 show LeavesInM (Fw none) 0 P fn (ov env a).tmps _ (ov env a).defers .returning W
 rw[B7,hd]
 rw[Bv] at hk
 have hb:=(hp.at_ _ _ hk rfl).1
 refine⟨by simp, .inl ⟨d,W.putObj d (.deferred none),rfl,run_takeDeferred hb, ?_⟩⟩
 have hp':Hp W0 (bxs.set k (gH d)) (W.putObj d (.deferred none)):=hp.updO hk rfl rfl ⟨rfl,rfl,rfl,rfl⟩
 have:=(h.out { tmps:=a.tmps,defers:=D } _ ha rfl hp').out
 have e:LeavesInM (Fw none) 0 P fn (ov env { tmps:=a.tmps,defers:=D }).tmps (fun e W'=> ∃x,e= .returned (val x)/\Φ x/\Below W0.heap.size W0 W'/\Au W0 W' (nb x)) (ov env { tmps:=a.tmps,defers:=D }).defers .returning (W.putObj d (.deferred none)):=this
 rw[B7] at e
 rw[Lt env { tmps:=a.tmps,defers:=D } a rfl] at e
 exact e
theorem A3 {fn:Func} {T:Tbl} {rv:ResultVar} {v:Value} {X:Type} {val:X->Value} {Φ:X->Prop} {nb:X->List Bx} (hT:okB P T=true) (hr:fn.results= #[rv])
  (hres:Res P T env bxs N rv v)
  (x:X) (hv:v=val x) (hx:Φ x) (hnb: ∀W,Hp W0 bxs W->Au W0 W (nb x)):NE N [] (Hx P fn W0 val Φ nb) .ret env (Hp W0 bxs):=
 OU (rvs:=[rv]) (vs:=[v]) hT hr rfl (fun i h _=>by
  have:i=0:=by simpa using h
  subst this;exact hres) x (by simpa using hv) hx hnb
theorem A4 {fn:Func} {T:Tbl} {r1 r2:ResultVar} {v1 v2:Value} {X:Type} {val:X->Value} {Φ:X->Prop} {nb:X->List Bx} (hT:okB P T=true) (hr:fn.results= #[r1,r2])
  (h1:Res P T env bxs N r1 v1) (h2:Res P T env bxs N r2 v2)
  (x:X) (hv: .tuple #[v1,v2]=val x) (hx:Φ x) (hnb: ∀W,Hp W0 bxs W->Au W0 W (nb x)):NE N [] (Hx P fn W0 val Φ nb) .ret env (Hp W0 bxs):=
 OU (rvs:=[r1,r2]) (vs:=[v1,v2]) hT hr rfl (fun i h _=>by
  match i,h with
  |0,_=>exact h1
  |1,_=>exact h2) x (by simpa using hv) hx hnb
theorem HQ {fn:Func} {T:Tbl} {r1 r2 r3:ResultVar} {v1 v2 v3:Value} {X:Type} {val:X->Value} {Φ:X->Prop} {nb:X->List Bx} (hT:okB P T=true) (hr:fn.results= #[r1,r2,r3])
  (h1:Res P T env bxs N r1 v1) (h2:Res P T env bxs N r2 v2) (h3:Res P T env bxs N r3 v3)
  (x:X) (hv: .tuple #[v1,v2,v3]=val x) (hx:Φ x) (hnb: ∀W,Hp W0 bxs W->Au W0 W (nb x)):NE N [] (Hx P fn W0 val Φ nb) .ret env (Hp W0 bxs):=
 OU (rvs:=[r1,r2,r3]) (vs:=[v1,v2,v3]) hT hr rfl (fun i h _=>by
  match i,h with
  |0,_=>exact h1
  |1,_=>exact h2
  |2,_=>exact h3) x (by simpa using hv) hx hnb
abbrev Be (P:Program) (g:Nat) (args:List Value) (v:Value):Prop:= ∀W,Ae P g args.toArray W (fun _:Unit=>v) (fun _=>True) (fun _=>[])
theorem Ae.cast {g:Nat} {args:Array Value} {W:World} {v v':Value} (h:Ae P g args W (fun _:Unit=>v) (fun _=>True) (fun _=>[])) (e:v=v'):Ae P g args W (fun _:Unit=>v') (fun _=>True) (fun _=>[]):=e▸h
end
end Go.Am
namespace Go.Am
open Go Go.RowKit
def DV (ρ:Operand->Option Value):List (Nat×Operand)->Option (List (Nat×Value))
 |[]=>some []
 |(i,x)::r=>match ρ x with
  |some v=>match DV ρ r with
   |some l=>some ((i,v)::l)
   |none=>none
  |none=>none
theorem Ej {ρ:Operand->Option Value} {ρ':Operand->Value} (hρ: ∀x v,ρ x=some v->ρ' x=v): ∀ {l:List (Nat×Operand)} {vs:List (Nat×Value)},DV ρ l=some vs->(l.map fun p=>(p.1,ρ' p.2))=vs
 |[],vs,h=>by cases h;rfl
 |(i,x)::r,vs,h=>by
  unfold DV at h
  split at h
  ·rename_i v hv
   split at h
   ·rename_i l hl
    cases h
    simp[hρ _ _ hv,Ej hρ hl]
   ·cases h
  ·cases h
def GD (place:Nat->Option (Nat×Nat)) (c:List Value):List (Nat×Value)->Option (List Value)
 |[]=>some c
 |(i,v)::r=>match place i with
  |none=>none
  |some (off,size)=>match Nat.beq v.cells.toList.length size,Nat.ble (off+size) c.length with
   |true,true=>GD place (BF c off v.cells.toList) r
   |_,_=>none
theorem L3 (off:Nat): ∀(vs:List Value) (k:Nat) (A:Array Value),off+k+vs.length<=A.size->
  (vs.zipIdx k).foldl (fun(cs:Array Value) (x:Value×Nat)=>cs.setIfInBounds (off+x.2) x.1) A=(BF A.toList (off+k) vs).toArray
 |[],k,A,_=>by simp[Oz]
 |v::vs,k,A,h=>by
  simp only[List.length_cons] at h
  simp only[List.zipIdx_cons,List.foldl_cons]
  rw[L3 off vs (k+1) _ (by simp;omega)]
  have:=Mu A.toList (off+k) v vs (by simp;omega)
  rw[<-this]
  simp[Nat.add_assoc]
theorem Lk {place:Nat->Option (Nat×Nat)}: ∀ {parts:List (Nat×Value)} {c c':List Value},GD place c parts=some c'->Instr.fill place c.toArray parts=some c'.toArray
 |[],c,c',h=>by cases h;rfl
 |(i,v)::r,c,c',h=>by
  unfold GD at h
  split at h
  ·cases h
  ·rename_i off size hp
   split at h
   ·rename_i h1 h2
    have h1:v.cells.toList.length=size:=Nat.eq_of_beq_eq_true h1
    have h2:off+size<=c.length:=Nat.le_of_ble_eq_true h2
    have h1':v.cells.size=size:=by simpa using h1
    unfold Instr.fill
    rw[hp]
    simp only[h1',ne_eq,not_true_eq_false,decide_false,Bool.false_or,List.size_toArray]
    rw[if_neg (by simp;omega)]
    have:=L3 off v.cells.toList 0 c.toArray (by simp;omega)
    have e:v.cells.zipIdx.foldl (fun(cs:Array Value) (x:Value×Nat)=>cs.setIfInBounds (off+x.2) x.1) c.toArray=(BF c off v.cells.toList).toArray:=by
     rw[<-Array.foldl_toList,Array.toList_zipIdx]
     simpa using this
    have ih:=Lk h
    rw[<-ih]
    congr 1
   ·cases h
section
variable {r:Option Nat} {n:Nat} {P:Program} {W0:World} {N:Nat} {D:List Deferred} {ops:List Oper} {Q:Exit->Act->World->Prop} {o:Oper} {rest:List Oper} {env:Env} {bxs:List Bx} {A:World->Prop}
def JZ (fs:List (Nat×Nat×Bool)) (i:Nat):Option (Nat×Nat):=
 match nth fs i with
 |some (off,size,_)=>some (off,size)
 |none=>none
theorem N9 {P:Program} {W:World}: ∀(l:List Field) (fs:List (Nat×Nat×Bool)),l.length=fs.length->
  (∀(f:Nat) (x:Nat×Nat×Bool),fs[f]? =some x-> ∃g,l[f]? =some g/\g.offset=x.1/\L5 P g.type x.2.1=true)->
  (l.mapM (fun f=>(do pure (f.offset, <-sizeOf f.type):Sem (Nat×Nat))):Sem (List (Nat×Nat))).run P W= .ok (fs.map fun x=>(x.1,x.2.1)) W
 |[],[],_,_=>by simp
 |g::l,x::fs,hl,h=>by
  obtain⟨g',h1,h2,h3⟩:=h 0 x (by simp)
  simp at h1;subst h1
  have ih:=N9 (P:=P) (W:=W) l fs (by simpa using hl) (fun f y hy=>by have:=h (f+1) y (by simpa using hy);simpa using this)
  simp only[List.mapM_cons,Sem.run_bind,Ey h3,Result.andThen_ok,Sem.run_pure,ih,h2,List.map_cons]
 |[],_::_,hl,_=>by simp at hl
 |_::_,[],hl,_=>by simp at hl
theorem XI {t:TypeId} {i:TI} {fs:Array Field} (h:Ip P t i=true) (hu:P.underlying t=some (.struct fs)):fs.toList.length=i.fields.length:=by
 simp only[Ip,Bool.and_eq_true] at h
 have h2:=h.2
 rw[hu] at h2
 simp only[Bool.and_eq_true] at h2
 simpa using h2.1.2
theorem Qk {T:Tbl} {i:TI} {ρ:Operand->Value} {t:TypeId} {parts:Array (Nat×Operand)} {vs:List (Nat×Value)} {z:Value} {c:List Value} (hT:okB P T=true) (ho:o.op= .build t parts) (ht:Cw T t=some i) (hk:i.kind=4)
  (hz: ∀W,(zeroValue t).run P W= .ok z W) (hp:(parts.toList.map fun p=>(p.1,ρ p.2))=vs) (hc:GD (JZ i.fields) z.cells.toList vs=some c) (W:World):
  (execOp ρ o).run P W= .ok (.value (.agg c.toArray)) W:=by
 have hr:=BA hT ht
 obtain⟨fs,hu,hf⟩:=Mh hr hk
 have hl:=XI hr hu
 have hpl:(fs.mapM (fun f=>(do pure (f.offset, <-sizeOf f.type):Sem (Nat×Nat))):Sem (Array (Nat×Nat))).run P W= .ok (i.fields.map fun x=>(x.1,x.2.1)).toArray W:=by
  have:=N9 (P:=P) (W:=W) fs.toList i.fields hl (fun f x hx=>by
   obtain⟨g,h1,h2,h3,_⟩:=hf f x hx
   exact⟨g,by simpa using h1,h2,h3⟩)
  rw[show fs=fs.toList.toArray by simp,List.mapM_toArray]
  simp only[Sem.run_map,this,Result.andThen_ok]
 have hplace:(fun j=>((i.fields.map fun x=>(x.1,x.2.1)).toArray)[j]?)=JZ i.fields:=by
  funext j
  simp only[JZ,Bv,List.getElem?_toArray,List.getElem?_map]
  cases i.fields[j]? <;>rfl
 have hparts:(parts.map fun(i,x)=>(i,ρ x)).toList=vs:=by rw[<-hp];simp
 have hfill:=Lk hc
 simp only[Array.toArray_toList] at hfill
 have hfill':Instr.fill (fun j=>((i.fields.map fun x=>(x.1,x.2.1)).toArray)[j]?) z.cells (parts.map fun(i,x)=>(i,ρ x)).toList=some c.toArray:=by rw[hplace,hparts];exact hfill
 simp only[execOp,ho,Instr.build,Sem.run_bind,hz,Result.andThen_ok,run_underlying hu,hpl,Sem.run_pure]
 rw[hfill']
 simp
theorem Hu {T:Tbl} {i:TI} {d:Nat} {t:TypeId} {parts:Array (Nat×Operand)} {vs:List (Nat×Value)} (z:Value) {c:List Value} (hT:okB P T=true) (hg:Aw ops N env o=some true) (hd:o.dst=some d) (ho:o.op= .build t parts) (ht:Cw T t=some i) (hk:i.kind=4)
  (hz: ∀W,(zeroValue t).run P W= .ok z W) (hp:DV (evO N env) parts.toList=some vs) (hc:GD (JZ i.fields) z.cells.toList vs=some c)
  (h:WL r n P N D ops Q rest ((d, .agg c.toArray)::env) A):WL r n P N D ops Q (o::rest) env A:=
 CP hg hd (fun c e=>by rw[ho] at e;cases e) (fun ρ W hρ _=>Qk hT ho ht hk hz (Ej hρ hp) hc W) h
def Kc (size:Nat) (i:Nat):Option (Nat×Nat):=some (i*size,size)
theorem NM {T:Tbl} {i:TI} {ρ:Operand->Value} {t:TypeId} {len:Nat} {parts:Array (Nat×Operand)} {vs:List (Nat×Value)} {z:Value} {c:List Value} (hT:okB P T=true) (ho:o.op= .buildSlice t len parts) (ht:Cw T t=some i) (hk:i.kind=2)
  (hz: ∀W,(zeroValue i.elem).run P W= .ok z W) (hp:(parts.toList.map fun p=>(p.1,ρ p.2))=vs) (h24:len*i.elemSize<=2^24) (h0:len*i.elemSize≠0)
  (hc:GD (Kc i.elemSize) (((Array.range (len*i.elemSize)).map (z.cells[· %z.cells.size]!)).toList) vs=some c) (W:World):
  (execOp ρ o).run P W= .ok (.value (.slice (some ⟨W.heap.size,0,none⟩) len len)) (W.alloc (.cells c.toArray i.elem)):=by
 have hr:=BA hT ht
 obtain⟨hu,hs⟩:=Fb hr hk
 have hparts:(parts.map fun(i,x)=>(i,ρ x)).toList=vs:=by rw[<-hp];simp
 have hfill:=Lk hc
 simp only[Array.toArray_toList] at hfill
 simp only[execOp,ho,Instr.buildSlice,Sem.run_bind,run_underlying hu,Result.andThen_ok,Ey hs]
 rw[if_neg (by omega),if_neg h0]
 simp only[Sem.run_bind,hz,Result.andThen_ok,Sem.run_pure]
 unfold Kc at hfill
 rw[hparts,hfill]
 simp[newRow]
theorem PK {T:Tbl} {i:TI} {d:Nat} {t:TypeId} {len:Nat} {parts:Array (Nat×Operand)} {vs:List (Nat×Value)} (z:Value) {c:List Value} (hT:okB P T=true) (hg:Aw ops N env o=some true) (hd:o.dst=some d) (ho:o.op= .buildSlice t len parts) (ht:Cw T t=some i) (hk:i.kind=2)
  (hz: ∀W,(zeroValue i.elem).run P W= .ok z W) (hp:DV (evO N env) parts.toList=some vs) (h24:Nat.ble (len*i.elemSize) (2^24)=true) (h0:Nat.beq (len*i.elemSize) 0=false)
  (hc:GD (Kc i.elemSize) (((Array.range (len*i.elemSize)).map (z.cells[· %z.cells.size]!)).toList) vs=some c)
  (h: ∀b,WL r n P N D ops Q rest ((d, .slice (some ⟨b,0,none⟩) len len)::env) (Hp W0 (bxs++[⟨b,i.elem,c,true,none⟩]))):WL r n P N D ops Q (o::rest) env (Hp W0 bxs):= .mk fun a W ha hd' hp'=>by
 refine BO hg ha (fun c e=>by rw[ho] at e;cases e) ?_
 rw[NM hT ho ht hk hz (Ej (AB ha) hp) (Nat.le_of_ble_eq_true h24) (Nat.ne_of_beq_eq_false h0) hc W]
 simp only[Oper.uponIn,hd]
 exact(h W.heap.size).out a _ ha hd' (hp'.alloc i.elem c)
end
end Go.Am
namespace Go.Am
open Go Go.RowKit
def edge (o:Oper) (i:Nat):Bool:=o.after.toList.any fun e=>Region.binds .any e&&Nat.beq e.on i
def Xx (o:Oper) (j:Nat):Bool:=o.after.toList.all fun e=> !(Region.binds .any e)||Nat.ble (e.on+1) j
def dC (l:List Operand):List Nat:=l.filterMap fun| .tmp t=>some t|_=>none
def Gl (ops:List Oper) (o:Oper):List Nat:=
 (match o.guard with
 |none=>[]
 |some (j,_)=>match nth ops j with
  |some oj=>oj.dst.toList
  |none=>[])++dC o.op.operands.toList
def MP (l:List Nat) (t:Nat):Bool:=l.any fun x=>Nat.beq x t
def DP (ops:List Oper) (oi oj:Oper):Bool:=
 (match oi.dst with|some d=>MP (Gl ops oj) d|none=>false)||
 (match oj.dst with|some d=>MP (Gl ops oi) d|none=>false)||
 (match oi.dst,oj.dst with|some d,some d'=>Nat.beq d d'|_,_=>false)
def cD (o:Oper):Bool:=match o.op with| .select .. =>false|_=>true
def Jq (o:Oper):List Nat:=o.after.toList.filterMap fun e=>if Region.binds .any e then some e.on else none
def IL (ops:List Oper):Nat->List Nat->List Nat
 |0,L=>L
 |k+1,L=>match MP L k with
  |true=>match nth ops k with
   |some o=>IL ops k (L++Jq o)
   |none=>IL ops k L
  |false=>IL ops k L
inductive Reach (ops:List Oper):Oper->Nat->Prop
 |edge {o:Oper} {i:Nat} (h:edge o i=true):Reach ops o i
 |step {o oj:Oper} {j i:Nat} (h:Reach ops o j) (hj:ops[j]? =some oj) (h':Go.Am.edge oj i=true):Reach ops o i
theorem FF {o:Oper} {i:Nat} (h:i∈Jq o):edge o i=true:=by
 simp only[Jq,List.mem_filterMap] at h
 obtain⟨e,he,h⟩:=h
 split at h
 ·rename_i hb
  simp at h
  simp only[edge,List.any_eq_true,Bool.and_eq_true]
  exact⟨e,he,hb,by simp[h]⟩
 ·cases h
theorem D8 {ops:List Oper} {o:Oper}: ∀(k:Nat) (L:List Nat),(∀i∈L,Reach ops o i)-> ∀i∈IL ops k L,Reach ops o i
 |0,L,h=>h
 |k+1,L,h=>by
  unfold IL
  split
  ·rename_i hm
   split
   ·rename_i oj hj
    rw[Bv] at hj
    refine D8 k _ fun i hi=> ?_
    rcases List.mem_append.1 hi with hi|hi
    ·exact h i hi
    ·exact .step (h k (by simpa[MP] using hm)) hj (FF hi)
   ·exact D8 k _ h
  ·exact D8 k _ h
def TM (ops:List Oper) (h:Nat):Bool:=
 (ops.zipIdx.all fun(o,j)=>Xx o j&&cD o)&&
 (ops.zipIdx.all fun(oj,j)=>(Nat.ble h j)||(ops.zipIdx.all fun(oi,i)=>Nat.ble j i|| !(DP ops oi oj)||edge oj i))&&
 (ops.zipIdx.all fun(o,t)=> !(Nat.beq t h)||((List.range h).all fun i=>MP (IL ops h (Jq o)) i))&&
 (ops.zipIdx.all fun(o,t)=> !(Nat.ble (h+1) t)||edge o (t-1))
theorem BI {l:List Oper} {o:Oper} {j:Nat} (h:l[j]? =some o):(o,j)∈l.zipIdx:=by
 obtain⟨hj,he⟩:=List.getElem?_eq_some_iff.1 h
 have:(l.zipIdx)[j]'(by simpa using hj)=(o,j):=by simp[he]
 rw[<-this];exact List.getElem_mem _
structure Ord (ops:List Oper) (h:Nat):Prop where
 low: ∀(j:Nat) (o:Oper),ops[j]? =some o->Xx o j=true
 sel: ∀(j:Nat) (o:Oper),ops[j]? =some o-> ∀cs b,o.op≠ .select cs b
 haz: ∀(i j:Nat) (oi oj:Oper),ops[i]? =some oi->ops[j]? =some oj->i<j->j<h->DP ops oi oj=true->edge oj i=true
 sink: ∀(o:Oper),ops[h]? =some o-> ∀i,i<h->Reach ops o i
 chain: ∀(t:Nat) (o:Oper),ops[t]? =some o->h<t->edge o (t-1)=true
theorem dM {ops:List Oper} {h:Nat} (hk:TM ops h=true):Ord ops h:=by
 simp only[TM,Bool.and_eq_true,List.all_eq_true] at hk
 obtain⟨⟨⟨h1,h2⟩,h3⟩,h4⟩:=hk
 refine⟨fun j o hj=>(h1 _ (BI hj)).1,fun j o hj cs b e=> ?_,fun i j oi oj hi hj hij hjh hz=> ?_,fun o ho i hi=> ?_,fun t o ht hlt=> ?_⟩
 ·have:=(h1 _ (BI hj)).2
  simp[cD,e] at this
 ·have:=h2 _ (BI hj)
  simp only[Bool.or_eq_true,List.all_eq_true] at this
  rcases this with h|h
  ·have:=Nat.le_of_ble_eq_true h;omega
  ·rcases h _ (BI hi) with(h|h)|h
   ·have:=Nat.le_of_ble_eq_true h;omega
   ·rw[hz] at h;cases h
   ·exact h
 ·have:=h3 _ (BI ho)
  simp only[Bool.or_eq_true,List.all_eq_true] at this
  rcases this with h0|h0
  ·simp at h0
  ·exact D8 h _ (fun i hi=> .edge (FF hi)) i (by simpa[MP] using h0 i (List.mem_range.2 hi))
 ·have:=h4 _ (BI ht)
  simp only[Bool.or_eq_true] at this
  rcases this with hh|hh
  ·rw[Nat.ble_eq_true_of_le hlt] at hh;cases hh
  ·exact hh
theorem KW {l:List Nat} {t:Nat}:MP l t=true↔t∈l:=by
 simp[MP]
section
variable {r:Option Nat} {n:Nat} {P:Program} {W0:World} {N:Nat} {D:List Deferred} {ops:List Oper} {Q:Exit->Act->World->Prop} {A:World->Prop}
def gI (A:World->Prop) (P:Program) (o:Oper) (a:Act) (W:World) (v:Value):Prop:=
 (∀c,o.op≠ .defer c)/\
 ((execOp a.eval o).run P W= .ok (.value v) W\/
 ∃g args,(execOp a.eval o).run P W= .ok (.enter g args) W/\Calls P g args W fun e W'=>e= .returned v/\A W'/\Below W.heap.size W W')
def OpS (A:World->Prop) (P:Program) (ops:List Oper) (o:Oper) (a:Act) (W:World) (v:Value):Prop:=
 if Region.wanted o (yielded ops.toArray a.tmps)=true then gI A P o a W v else v=undef
def WQf (P:Program) (N:Nat) (D:List Deferred) (ops:List Oper) (A A2:World->Prop) (R:Act->World->Prop):List Oper->(Act->Act)->Prop
 |[],f=> ∀(a:Act) (W:World),a.tmps.size=N->a.defers=D->A2 W->R (f a) W
 |o::l,f=> ∃v,(∀(a:Act) (W:World),a.tmps.size=N->a.defers=D->A W->OpS A P ops o (f a) W v)/\WQf P N D ops A A2 R l (fun a=>(f a).put o.dst v)
theorem J2 {A2:World->Prop} {R:Act->World->Prop}: ∀ {l:List Oper} {f g:Act->Act},(∀a,a.tmps.size=N->f a=g a)->WQf P N D ops A A2 R l f->WQf P N D ops A A2 R l g
 |[],f,g,hfg,h=>fun a W h1 h2 h3=>by rw[<-hfg a h1];exact h a W h1 h2 h3
 |o::l,f,g,hfg,h=>by
  obtain⟨v,h1,h2⟩:=h
  exact⟨v,fun a W e1 e2 e3=>by rw[<-hfg a e1];exact h1 a W e1 e2 e3,J2 (fun a e=>by rw[hfg a e]) h2⟩
structure WQ (P:Program) (N:Nat) (D:List Deferred) (ops:List Oper) (A2:World->Prop) (R:Act->World->Prop) (l:List Oper) (env:Env) (A:World->Prop):Prop where
 out:WQf P N D ops A A2 R l (ov env)
def E8 (dst:Nat->Option Nat) (v:Nat->Value) (a:Act):Nat->Act
 |0=>a
 |k+1=>(E8 dst v a k).put (dst k) (v k)
def BB (dst:Nat->Option Nat) (v:Nat->Value) (L:Nat->Bool) (a:Act):Nat->Act
 |0=>a
 |k+1=>if L k=true then(BB dst v L a k).put (dst k) (v k) else BB dst v L a k
theorem H6 (a:Act) (d:Option Nat) (v:Value) (t:Nat) (h:d≠some t):(a.put d v).tmps[t]? =a.tmps[t]? :=by
 cases d with
 |none=>rfl
 |some d=>
  simp only[Act.put,Array.getElem?_setIfInBounds]
  rw[if_neg (fun e=>h (by rw[e]))]
theorem KP (a b:Act) (d:Option Nat) (v:Value) (t:Nat) (hs:a.tmps.size=b.tmps.size) (h:a.tmps[t]? =b.tmps[t]?):(a.put d v).tmps[t]? =(b.put d v).tmps[t]? :=by
 cases d with
 |none=>exact h
 |some d=>simp only[Act.put,Array.getElem?_setIfInBounds,hs,h]
theorem T0 (a:Act) (d:Option Nat) (v:Value):(a.put d v).tmps.size=a.tmps.size:=by cases d<;>simp[Act.put]
theorem Og (a:Act) (d:Option Nat) (v:Value):(a.put d v).defers=a.defers:=by cases d<;>simp[Act.put]
theorem NA {dst:Nat->Option Nat} {v:Nat->Value} {a:Act}: ∀k,(E8 dst v a k).tmps.size=a.tmps.size
 |0=>rfl
 |k+1=>by rw[E8,T0,NA k]
theorem J5 {dst:Nat->Option Nat} {v:Nat->Value} {L:Nat->Bool} {a:Act}: ∀k,(BB dst v L a k).tmps.size=a.tmps.size
 |0=>rfl
 |k+1=>by unfold BB;split<;>simp[T0,J5 k]
theorem Cv {dst:Nat->Option Nat} {v:Nat->Value} {L:Nat->Bool} {a:Act} (k:Nat):BB dst v L a (k+1)=if L k=true then(BB dst v L a k).put (dst k) (v k) else BB dst v L a k:=rfl
theorem Ue {dst:Nat->Option Nat} {v:Nat->Value} {L:Nat->Bool} {a:Act} {t:Nat}: ∀j,(∀i,i<j->L i=false->dst i≠some t)->(BB dst v L a j).tmps[t]? =(E8 dst v a j).tmps[t]?
 |0,_=>rfl
 |j+1,h=>by
  have ih:=Ue (v:=v) (a:=a) j (fun i hi=>h i (by omega))
  unfold BB E8
  split
  ·exact KP _ _ _ _ _ (by rw[J5,NA]) ih
  ·rename_i hL
   rw[H6 _ _ _ _ (h j (by omega) (by simpa using hL))]
   exact ih
theorem LT {dst:Nat->Option Nat} {v:Nat->Value} {L:Nat->Bool} {a:Act} {t j:Nat}: ∀d,(∀i,j<=i->i<j+d->L i=true->dst i≠some t)->(BB dst v L a (j+d)).tmps[t]? =(BB dst v L a j).tmps[t]?
 |0,_=>rfl
 |d+1,h=>by
  have ih:=LT (v:=v) (a:=a) d (fun i h1 h2=>h i h1 (by omega))
  rw[<-Nat.add_assoc,Cv]
  split
  ·rename_i hL
   rw[H6 _ _ _ _ (h (j+d) (by omega) (by omega) hL)]
   exact ih
  ·exact ih
theorem Xz (a:Act) (d d':Option Nat) (u u':Value) (h: ∀t,d=some t->d'≠some t):(a.put d u).put d' u'=(a.put d' u').put d u:=by
 cases d with
 |none=>rfl
 |some d=>
  cases d' with
  |none=>rfl
  |some d'=>
   have hne:d≠d':=fun e=>h d rfl (by rw[e])
   simp only[Act.put]
   rw[Array.setIfInBounds_comm _ _ hne]
theorem KT {dst:Nat->Option Nat} {v:Nat->Value} {L L':Nat->Bool} {a:Act} {j:Nat} (hL': ∀i,i≠j->L' i=L i) (hj:L j=false) (hj':L' j=true): ∀d,(∀i,j<i->i<j+1+d->L i=true-> ∀t,dst j=some t->dst i≠some t)->
  BB dst v L' a (j+1+d)=(BB dst v L a (j+1+d)).put (dst j) (v j)
 |0,_=>by
  have hlow: ∀k,k<=j->BB dst v L' a k=BB dst v L a k:=by
   intro k
   induction k with
   |zero=>intro _;rfl
   |succ k ih=>
    intro hk
    unfold BB
    rw[ih (by omega),hL' k (by omega)]
  simp only[BB,hj,hj',if_true,Bool.false_eq_true,if_false,hlow j (Nat.le_refl _)]
 |d+1,h=>by
  have ih:=KT (v:=v) (a:=a) hL' hj hj' d (fun i h1 h2=>h i h1 (by omega))
  rw[<-Nat.add_assoc]
  show(if L' (j+1+d)=true then _ else _)=Act.put (if L (j+1+d)=true then _ else _) _ _
  rw[hL' (j+1+d) (by omega),ih]
  split
  ·rename_i hLi
   exact Xz _ _ _ _ _ (fun t ht=>h (j+1+d) (by omega) (by omega) hLi t ht)
  ·rfl
theorem K1 {o:Oper} {a b:Act} (h: ∀t∈Gl ops o,a.tmps[t]? =b.tmps[t]?):Region.wanted o (yielded ops.toArray a.tmps)=Region.wanted o (yielded ops.toArray b.tmps):=by
 unfold Region.wanted
 cases hg:o.guard with
 |none=>rfl
 |some p=>
  obtain⟨j,want⟩:=p
  have:yielded ops.toArray a.tmps j=yielded ops.toArray b.tmps j:=by
   unfold yielded
   cases hj:ops[j]? with
   |none=>simp[hj]
   |some oj=>
    cases hd:oj.dst with
    |none=>simp[hj,hd]
    |some d=>
     have:=h d (by simp[Gl,hg,Bv,hj,hd])
     simp[hj,hd,this]
  simp only[this]
theorem Ob {o:Oper} {a b:Act} (h: ∀t∈Gl ops o,a.tmps[t]? =b.tmps[t]?): ∀x∈o.op.operands,a.eval x=b.eval x:=by
 intro x hx
 cases x with
 |tmp t=>
  have:t∈Gl ops o:=List.mem_append_right _ (List.mem_filterMap.2 ⟨.tmp t,by simpa using hx,rfl⟩)
  simp only[Act.eval,Array.getD_eq_getD_getElem?,h t this]
 |const v=>rfl
 |global g=>rfl
 |func f=>rfl
theorem Q3 {o:Oper} {a b:Act} {W:World} {v:Value} (hs: ∀cs c,o.op≠ .select cs c) (h: ∀t∈Gl ops o,a.tmps[t]? =b.tmps[t]?) (hb:OpS A P ops o b W v):OpS A P ops o a W v:=by
 unfold OpS gI at*
 rw[K1 h,execOp_congr o hs (Ob h)]
 exact hb
theorem TJ {A2:World->Prop} {R:Act->World->Prop}: ∀(l:List Oper) (f:Act->Act),WQf P N D ops A A2 R l f->
  ∃v:Nat->Value,(∀(j:Nat) (o:Oper),l[j]? =some o-> ∀(a:Act) (W:World),a.tmps.size=N->a.defers=D->A W->OpS A P ops o (E8 (fun i=>(l[i]?).bind (·.dst)) v (f a) j) W (v j))/\
   ∀(a:Act) (W:World),a.tmps.size=N->a.defers=D->A2 W->R (E8 (fun i=>(l[i]?).bind (·.dst)) v (f a) l.length) W
 |[],f,h=>⟨fun _=>undef,fun j o hj=>by simp at hj,h⟩
 |o::l,f,h=>by
  obtain⟨v0,h1,h2⟩:=h
  obtain⟨v,h3,h4⟩:=TJ l _ h2
  have shift: ∀(a:Act) (k:Nat),E8 (fun i=>((o::l)[i]?).bind (·.dst)) (fun i=>match i with|0=>v0|i+1=>v i) (f a) (k+1)=E8 (fun i=>(l[i]?).bind (·.dst)) v ((f a).put o.dst v0) k:=by
   intro a k
   induction k with
   |zero=>simp[E8]
   |succ k ih=>
    rw[E8,ih]
    simp[E8]
  refine⟨fun i=>match i with|0=>v0|i+1=>v i,fun j oj hj a W e1 e2 e3=> ?_,fun a W e1 e2 e3=> ?_⟩
  ·cases j with
   |zero=>simp at hj;subst hj;exact h1 a W e1 e2 e3
   |succ j=>rw[shift];exact h3 j oj (by simpa using hj) a W e1 e2 e3
  ·rw[List.length_cons,shift];exact h4 a W e1 e2 e3
theorem bQ {o:Oper} {a:Act} {W:World} {v:Value} {K:Act->World->Prop} (hp:A W) (h:OpS A P ops o a W v) (hK: ∀W',A W'->K (a.put o.dst v) W'):
  if Region.wanted o (yielded ops.toArray a.tmps)=true then o.wpIn (Fw r) n P a W K Q else(∀f,o.about P W a.eval=some f->(Fw r).fn f)/\K (a.put o.dst undef) W:=by
 unfold OpS at h
 split
 ·rename_i hw
  rw[if_pos hw] at h
  obtain⟨hnd,h⟩:=h
  refine⟨fun _ _=>trivial, ?_⟩
  show o.uponIn (Fw r) n P a K Q ((o.semAt r a.eval).run P W)
  rw[I5 _ hnd]
  rcases h with h|⟨g,args,h,hc⟩
  ·rw[h];exact hK W hp
  ·rw[h]
   refine⟨fun hx=>(by cases hx),Ed (hc.mono ?_)⟩
   rintro e W' ⟨rfl,hb,_⟩
   exact hK W' hb
 ·rename_i hw
  rw[if_neg hw] at h
  subst h
  exact⟨fun _ _=>trivial,hK W hp⟩
theorem Ev {j:Nat} {listed:Array Bool} (hs:listed.size=ops.length):j∈Region.ready .any ops.toArray listed↔
  ∃o,ops[j]? =some o/\listed[j]? =some false/\ ∀e∈o.after,Region.binds .any e=true->listed.getD e.on false=true:=by
 rw[mem_ready]
 constructor
 ·rintro⟨h1,o,h2,h3⟩
  refine⟨o,by simpa using h2, ?_,h3⟩
  have hj:j<ops.length:=by
   have:=(Array.getElem?_eq_some_iff.1 h2).1
   simpa using this
  have hjl:j<listed.size:=by omega
  simp[Array.getD,hjl] at h1
  simp[hjl,h1]
 ·rintro⟨o,h1,h2,h3⟩
  refine⟨?_,o,by simpa using h1,h3⟩
  obtain⟨hj,he⟩:=Array.getElem?_eq_some_iff.1 h2
  simp[Array.getD,hj,he]
theorem D5 {o:Oper} {i:Nat} {listed:Array Bool} (he:edge o i=true) (h: ∀e∈o.after,Region.binds .any e=true->listed.getD e.on false=true):listed.getD i false=true:=by
 simp only[edge,List.any_eq_true,Bool.and_eq_true] at he
 obtain⟨e,hm,hb,hi⟩:=he
 have:e.on=i:=Nat.eq_of_beq_eq_true hi
 subst this
 exact h e (by simpa using hm) hb
theorem HH {o:Oper} {i:Nat} {listed:Array Bool} (hr:Reach ops o i) (h: ∀e∈o.after,Region.binds .any e=true->listed.getD e.on false=true)
  (hc: ∀(j:Nat) (o:Oper),ops[j]? =some o->listed.getD j false=true-> ∀e∈o.after,Region.binds .any e=true->listed.getD e.on false=true):listed.getD i false=true:=by
 induction hr with
 |edge he=>exact D5 he h
 |step _ hj he ih=>exact D5 he (hc _ _ hj ih)
theorem Ju {k:Nat} {o:Oper} {K:Act->World->Prop} {a:Act} {W:World} (hk:ops[k]? =some o)
  (h:if Region.wanted o (yielded ops.toArray a.tmps)=true then o.wpIn (Fw r) n P a W K Q else(∀f,o.about P W a.eval=some f->(Fw r).fn f)/\K (a.put o.dst undef) W):wpOpIn (Fw r) n P ops.toArray Q k K a W:=by
 unfold wpOpIn
 have:ops.toArray[k]? =some o:=by simpa using hk
 simp only[this]
 exact h
theorem Ke {o:Oper} {j:Nat} {listed:Array Bool} (hl:Xx o j=true) (h: ∀i,i<j->listed.getD i false=true): ∀e∈o.after,Region.binds .any e=true->listed.getD e.on false=true:=by
 intro e he hb
 simp only[Xx,List.all_eq_true,Bool.or_eq_true,Bool.not_eq_true'] at hl
 rcases hl e (by simpa using he) with h1|h1
 ·rw[hb] at h1;cases h1
 ·exact h _ (Nat.le_of_ble_eq_true h1)
theorem KK {h:Nat} (ho:Ord ops h): ∀(d k:Nat) (listed:Array Bool) (a:Act) (W:World),k+d=ops.length->h<=k->listed.size=ops.length->(∀i,i<ops.length->listed[i]? =some (decide (i<k)))->
  wpListIn (Fw r) n P ops.toArray Q (ops.drop k) a W->wpAnyIn (Fw r) n P .any ops.toArray Q d listed a W
 |0,k,listed,a,W,hkd,hk,hs,hl,hw=>by
  have hnil:Region.ready .any ops.toArray listed=[]:=by
   apply List.eq_nil_iff_forall_not_mem.2
   intro j hj
   obtain⟨o,h1,h2,_⟩:=(Ev hs).1 hj
   have hjl:=(List.getElem?_eq_some_iff.1 h1).1
   rw[hl j hjl] at h2
   simp at h2
   omega
  refine⟨hnil, ?_⟩
  rw[List.drop_eq_nil_of_le (by omega)] at hw
  exact hw
 |d+1,k,listed,a,W,hkd,hk,hs,hl,hw=>by
  have hkl:k<ops.length:=by omega
  have hget: ∀i,i<k->listed.getD i false=true:=fun i hi=>by
   have:=hl i (by omega)
   obtain⟨h1,h2⟩:=Array.getElem?_eq_some_iff.1 this
   simp only[Array.getD,h1,dite_true]
   show listed[i]=true
   rw[h2];simpa using hi
  have hko:ops[k]? =some ops[k]:=List.getElem?_eq_getElem hkl
  have hkr:k∈Region.ready .any ops.toArray listed:=(Ev hs).2 ⟨_,hko,by rw[hl k hkl];simp,Ke (ho.low _ _ hko) hget⟩
  refine⟨fun hn=>(by rw[hn] at hkr;cases hkr),fun j hj=> ?_⟩
  obtain⟨o,h1,h2,h3⟩:=(Ev hs).1 hj
  have hjl:=(List.getElem?_eq_some_iff.1 h1).1
  rw[hl j hjl] at h2
  have hjk: ¬j<k:=by simpa using h2
  have hjk2:j=k:=by
   rcases Nat.lt_or_ge k j with hlt|hge
   ·have he:=D5 (ho.chain j o h1 (by omega)) h3
    have hjl2:=hl (j-1) (by omega)
    obtain⟨e1,e2⟩:=Array.getElem?_eq_some_iff.1 hjl2
    simp only[Array.getD,e1,dite_true] at he
    have he:listed[j-1]=true:=he
    rw[e2] at he
    simp at he
    omega
   ·omega
  subst hjk2
  rw[hko] at h1;cases h1
  refine Ju hko ?_
  rw[List.drop_eq_getElem_cons hkl] at hw
  unfold wpListIn at hw
  split
  ·rename_i hwn
   rw[if_pos hwn] at hw
   refine Oper.wpIn_mono (fun a' W' h'=>KK ho d (j+1) _ a' W' (by omega) (by omega) (by simp[hs]) (fun i hi=> ?_) h') hw
   rw[Array.getElem?_setIfInBounds]
   by_cases e:j=i
   ·subst e;simp[hs,hi]
   ·rw[if_neg e,hl i hi];congr 1;simp;omega
  ·rename_i hwn
   rw[if_neg hwn] at hw
   refine⟨hw.1,KK ho d (j+1) _ _ _ (by omega) (by omega) (by simp[hs]) (fun i hi=> ?_) hw.2⟩
   rw[Array.getElem?_setIfInBounds]
   by_cases e:j=i
   ·subst e;simp[hs,hi]
   ·rw[if_neg e,hl i hi];congr 1;simp;omega
def Du (l:List Bool):Nat:=l.countP fun b=> !b
theorem Kx: ∀(l:List Bool) (j:Nat),l[j]? =some false->Du (l.set j true)+1=Du l
 |[],j,h=>by simp at h
 |b::l,0,h=>by simp at h;subst h;simp[Du]
 |b::l,j+1,h=>by
  have ih:=Kx l j (by simpa using h)
  simp only[Du,List.set_cons_succ,List.countP_cons] at ih⊢
  omega
theorem GU: ∀(l:List Bool) (h:Nat),h<=l.length->(∀i,i<l.length->l[i]? =some (decide (i<h)))->h+Du l=l.length
 |[],h,hl,_=>by
  have:h=0:=by simpa using hl
  subst this;rfl
 |b::l,0,_,hh=>by
  have hb:=hh 0 (by simp)
  simp at hb;subst hb
  have ih:=GU l 0 (by omega) (fun i hi=>by have:=hh (i+1) (by simpa using hi);simpa using this)
  have e:Du (false::l)=Du l+1:=by simp[Du]
  rw[e,List.length_cons];omega
 |b::l,h+1,hl,hh=>by
  have hb:=hh 0 (by simp)
  simp at hb;subst hb
  have ih:=GU l h (by simpa using hl) (fun i hi=>by have:=hh (i+1) (by simpa using hi);simpa using this)
  have e:Du (true::l)=Du l:=by simp[Du]
  rw[e,List.length_cons];omega
theorem Yx {h:Nat} (ho:Ord ops h) (hh:h<=ops.length) {v:Nat->Value} {a0:Act}
  (hv: ∀(j:Nat) (o:Oper),(ops.take h)[j]? =some o-> ∀(W:World),A W->OpS A P ops o (E8 (fun i=>((ops.take h)[i]?).bind (·.dst)) v a0 j) W (v j))
  (hend: ∀(W:World),A W->wpListIn (Fw r) n P ops.toArray Q (ops.drop h) (E8 (fun i=>((ops.take h)[i]?).bind (·.dst)) v a0 h) W):
  ∀(d:Nat) (listed:Array Bool) (W:World),Du listed.toList=d->listed.size=ops.length->A W->(∀t,h<=t->listed.getD t false=false)->
   (∀(j:Nat) (o:Oper),ops[j]? =some o->listed.getD j false=true-> ∀e∈o.after,Region.binds .any e=true->listed.getD e.on false=true)->
   wpAnyIn (Fw r) n P .any ops.toArray Q d listed (BB (fun i=>((ops.take h)[i]?).bind (·.dst)) v (fun i=>listed.getD i false) a0 h) W:=by
 intro d
 induction d with
 |zero=>
  intro listed W hu hs hp ht hc
  have hall: ∀i,i<h->listed.getD i false=true:=fun i hi=>by
   have hil:i<listed.size:=by omega
   have:=List.countP_eq_zero.1 hu (listed[i]) (by simp)
   simp only[Array.getD,hil,dite_true]
   simpa using this
  have hmix:BB (fun i=>((ops.take h)[i]?).bind (·.dst)) v (fun i=>listed.getD i false) a0 h=E8 (fun i=>((ops.take h)[i]?).bind (·.dst)) v a0 h:=by
   have: ∀k,k<=h->BB (fun i=>((ops.take h)[i]?).bind (·.dst)) v (fun i=>listed.getD i false) a0 k=E8 (fun i=>((ops.take h)[i]?).bind (·.dst)) v a0 k:=by
    intro k
    induction k with
    |zero=>intro _;rfl
    |succ k ih=>intro hk;rw[Cv,if_pos (hall k (by omega)),ih (by omega)];rfl
   exact this h (Nat.le_refl _)
  have hm:h=ops.length:=by
   rcases Nat.lt_or_ge h ops.length with hlt|hge
   ·have h1:=ht h (Nat.le_refl _)
    have hil:h<listed.size:=by omega
    have:=List.countP_eq_zero.1 hu (listed[h]) (by simp)
    simp only[Array.getD,hil,dite_true] at h1
    have h1:listed[h]=false:=h1
    simp[h1] at this
   ·omega
  rw[hmix]
  refine KK ho 0 h listed _ W (by omega) (Nat.le_refl _) hs (fun i hi=> ?_) (hend W hp)
  have h1:=hall i (by omega)
  have hil:i<listed.size:=by omega
  simp only[Array.getD,hil,dite_true] at h1
  have h1:listed[i]=true:=h1
  rw[Array.getElem?_eq_getElem hil,h1]
  simp;omega
 |succ d ih=>
  intro listed W hu hs hp ht hc
  by_cases hall: ∀i,i<h->listed.getD i false=true
  ·have hmix:BB (fun i=>((ops.take h)[i]?).bind (·.dst)) v (fun i=>listed.getD i false) a0 h=E8 (fun i=>((ops.take h)[i]?).bind (·.dst)) v a0 h:=by
    have: ∀k,k<=h->BB (fun i=>((ops.take h)[i]?).bind (·.dst)) v (fun i=>listed.getD i false) a0 k=E8 (fun i=>((ops.take h)[i]?).bind (·.dst)) v a0 k:=by
     intro k
     induction k with
     |zero=>intro _;rfl
     |succ k ih=>intro hk;rw[Cv,if_pos (hall k (by omega)),ih (by omega)];rfl
    exact this h (Nat.le_refl _)
   rw[hmix]
   have hlist: ∀i,i<ops.length->listed[i]? =some (decide (i<h)):=fun i hi=>by
    have hil:i<listed.size:=by omega
    rw[Array.getElem?_eq_getElem hil]
    by_cases e:i<h
    ·have h1:=hall i e
     simp only[Array.getD,hil,dite_true] at h1
     have h1:listed[i]=true:=h1
     simp[h1,e]
    ·have h1:=ht i (by omega)
     simp only[Array.getD,hil,dite_true] at h1
     have h1:listed[i]=false:=h1
     simp[h1];omega
   have:=GU listed.toList h (by simp;omega) (fun i hi=>by simpa using hlist i (by simp at hi;omega))
   refine KK ho (d+1) h listed _ W (by simp at this;omega) (Nat.le_refl _) hs hlist (hend W hp)
  ·have hex: ∃i,i<h/\listed.getD i false=false/\ ∀k,k<i->listed.getD k false=true:=by
    have hP: ∃i,i<h/\listed.getD i false=false:=by
     apply Classical.byContradiction
     intro hne
     apply hall
     intro i hi
     cases hb:listed.getD i false with
     |true=>rfl
     |false=>exact absurd ⟨i,hi,hb⟩ hne
    obtain⟨i,hi⟩:=hP
    induction i using Nat.strongRecOn with
    |_ i ihi=>
     by_cases hk: ∀k,k<i->listed.getD k false=true
     ·exact⟨i,hi.1,hi.2,hk⟩
     ·have: ∃k,k<i/\listed.getD k false=false:=by
       apply Classical.byContradiction
       intro hne
       apply hk
       intro k hki
       cases hb:listed.getD k false with
       |true=>rfl
       |false=>exact absurd ⟨k,hki,hb⟩ hne
      obtain⟨k,hki,hb⟩:=this
      exact ihi k hki ⟨by omega,hb⟩
   obtain⟨i,hih,hif,hil⟩:=hex
   have hget: ∀k,k<ops.length->listed[k]? =some (listed.getD k false):=fun k hk=>by
    have:k<listed.size:=by omega
    simp[Array.getD,this]
   have hio:ops[i]? =some ops[i]:=List.getElem?_eq_getElem (by omega)
   have hir:i∈Region.ready .any ops.toArray listed:=(Ev hs).2 ⟨_,hio,by rw[hget i (by omega),hif],Ke (ho.low _ _ hio) hil⟩
   refine⟨fun hn=>(by rw[hn] at hir;cases hir),fun j hj=> ?_⟩
   obtain⟨o,h1,h2,h3⟩:=(Ev hs).1 hj
   have hjl:=(List.getElem?_eq_some_iff.1 h1).1
   have hjf:listed.getD j false=false:=by
    have:=hget j hjl
    rw[h2] at this
    exact(Option.some.inj this).symm
   have hjh:j<h:=by
    rcases Nat.lt_or_ge j h with hlt|hge
    ·exact hlt
    ·exfalso
     rcases Nat.eq_or_lt_of_le hge with e|hlt
     ·subst e
      have:=HH (ho.sink o h1 i hih) h3 hc
      rw[hif] at this;cases this
     ·have:=D5 (ho.chain j o h1 hlt) h3
      rw[ht (j-1) (by omega)] at this;cases this
   have hjt:(ops.take h)[j]? =some o:=by rw[List.getElem?_take,if_pos hjh];exact h1
   have hdj:((ops.take h)[j]?).bind (·.dst)=o.dst:=by rw[hjt];rfl
   have htake: ∀(i:Nat) (t:Nat),((ops.take h)[i]?).bind (·.dst)=some t-> ∃oi,ops[i]? =some oi/\oi.dst=some t/\i<h:=fun i t hd=>by
    cases hi:(ops.take h)[i]? with
    |none=>rw[hi] at hd;cases hd
    |some oi=>
     rw[hi] at hd
     have hih:i<h:=by
      have:=(List.getElem?_eq_some_iff.1 hi).1
      simp at this;omega
     rw[List.getElem?_take,if_pos hih] at hi
     exact⟨oi,hi,hd,hih⟩
   have hreads: ∀t∈Gl ops o,(BB (fun i=>((ops.take h)[i]?).bind (·.dst)) v (fun i=>listed.getD i false) a0 h).tmps[t]? =(E8 (fun i=>((ops.take h)[i]?).bind (·.dst)) v a0 j).tmps[t]? :=fun t htr=>by
    have e:h=j+(h-j):=by omega
    rw[e]
    rw[<-e]
    have hl:=LT (dst:=fun i=>((ops.take h)[i]?).bind (·.dst)) (v:=v) (L:=fun i=>listed.getD i false) (a:=a0) (t:=t) (j:=j) (h-j) (fun i hji hih2 hLi hdi=>by
     obtain⟨oi,hoi,hdi,hih3⟩:=htake i t hdi
     rcases Nat.eq_or_lt_of_le hji with e|hlt
     ·subst e;rw[hjf] at hLi;cases hLi
     ·have hz:DP ops o oi=true:=by simp only[DP,hdi,KW.2 htr,Bool.or_true,Bool.true_or]
      have:=ho.haz j i o oi h1 hoi hlt hih3 hz
      have:=D5 this (hc i oi hoi hLi)
      rw[hjf] at this;cases this)
    rw[<-e] at hl
    rw[hl]
    refine Ue j (fun i hij hLi hdi=> ?_)
    obtain⟨oi,hoi,hdi,_⟩:=htake i t hdi
    have hz:DP ops oi o=true:=by simp only[DP,hdi,KW.2 htr,Bool.true_or]
    have:=ho.haz i j oi o hoi h1 hij hjh hz
    have:=D5 this h3
    rw[hLi] at this;cases this
   refine Ju h1 (bQ hp (Q3 (ho.sel j o h1) hreads (hv j o hjt W hp)) fun W' hp'=> ?_)
   have hset: ∀i,(listed.setIfInBounds j true).getD i false=if i=j then true else listed.getD i false:=fun i=>by
    have hjs:j<listed.size:=by omega
    simp only[Array.getD_eq_getD_getElem?,Array.getElem?_setIfInBounds]
    by_cases e:j=i
    ·subst e;simp[hjs]
    ·rw[if_neg e,if_neg (fun x=>e x.symm)]
   have hmix:BB (fun i=>((ops.take h)[i]?).bind (·.dst)) v (fun i=>(listed.setIfInBounds j true).getD i false) a0 h=(BB (fun i=>((ops.take h)[i]?).bind (·.dst)) v (fun i=>listed.getD i false) a0 h).put o.dst (v j):=by
    have e:h=j+1+(h-(j+1)):=by omega
    have:=KT (dst:=fun i=>((ops.take h)[i]?).bind (·.dst)) (v:=v) (L:=fun i=>listed.getD i false) (L':=fun i=>(listed.setIfInBounds j true).getD i false) (a:=a0) (j:=j)
     (fun i hne=>by simp only[hset,if_neg hne]) hjf (by simp[hset]) (h-(j+1)) (fun i hji hih2 hLi t htd hdi=>by
      obtain⟨oi,hoi,hdi,hih3⟩:=htake i t hdi
      have htd:o.dst=some t:=by rw[<-hdj];exact htd
      have hz:DP ops o oi=true:=by simp[DP,hdi,htd]
      have:=ho.haz j i o oi h1 hoi hji hih3 hz
      have:=D5 this (hc i oi hoi hLi)
      rw[hjf] at this;cases this)
    rw[<-e] at this
    rw[this,hdj]
   rw[<-hmix]
   refine ih _ W' ?_ (by simp[hs]) hp' (fun t hht=>by rw[hset,if_neg (by omega)];exact ht t hht) (fun i oi hoi hLi e he hb=> ?_)
   ·have:=Kx listed.toList j (by rw[Array.getElem?_toList];exact h2)
    have e:(listed.setIfInBounds j true).toList=listed.toList.set j true:=by simp
    rw[e];omega
   ·rw[hset] at hLi⊢
    split
    ·rfl
    ·by_cases e2:i=j
     ·subst e2
      rw[h1] at hoi;cases hoi
      exact h3 e he hb
     ·rw[if_neg e2] at hLi
      exact hc i oi hoi hLi e he hb
theorem Rb (h:Nat) {id:Nat} {env:Env} (hA: ∀W,A W->A { W with drawn:=W.drawn+1 }) (hm:P.follows .mixedOrders=true) (ho:TM ops h=true) (hh:Nat.ble h ops.length=true)
  (hq:WQ P N D ops A (wpListIn (Fw r) n P ops.toArray Q (ops.drop h)) (ops.take h) env A):WC r n P N D (.region id ops.toArray true) Q env A:= .mk fun a W ha hd hp=>by
 have hh:h<=ops.length:=Nat.le_of_ble_eq_true hh
 obtain⟨v,hv,hend⟩:=TJ _ _ hq.out
 refine wpIn_region_any hm ?_
 have hp':A { W with drawn:=W.drawn+1 }:=hA W hp
 have hlen:(ops.take h).length=h:=by simp;omega
 have key:=Yx (r:=r) (n:=n) (P:=P) (Q:=Q) (A:=A) (dM ho) hh (v:=v) (a0:=ov env a)
  (fun j o hj W' hpW=>hv j o hj a W' ha hd hpW) (fun W' hpW=>by have:=hend a W' ha hd hpW;rw[hlen] at this;exact this)
  ops.length (Array.replicate ops.length false) { W with drawn:=W.drawn+1 } (by simp[Du,List.countP_replicate]) (by simp) hp' (fun t _=>by simp[Array.getD_eq_getD_getElem?,Array.getElem?_replicate];split<;>rfl)
  (fun j o _ hl=>by simp[Array.getD_eq_getD_getElem?,Array.getElem?_replicate] at hl;split at hl<;>simp at hl)
 have hmix:BB (fun i=>((ops.take h)[i]?).bind (·.dst)) v (fun i=>(Array.replicate ops.length false).getD i false) (ov env a) h=ov env a:=by
  have: ∀k,BB (fun i=>((ops.take h)[i]?).bind (·.dst)) v (fun i=>(Array.replicate ops.length false).getD i false) (ov env a) k=ov env a:=by
   intro k
   induction k with
   |zero=>rfl
   |succ k ih=>
    rw[Cv,if_neg,ih]
    simp[Array.getD_eq_getD_getElem?,Array.getElem?_replicate]
    split<;>simp
  exact this h
 rw[hmix] at key
 simpa using key
end
end Go.Am
namespace Go.Am
open Go Go.RowKit
section
variable {r:Option Nat} {n:Nat} {P:Program} {W0:World} {N:Nat} {D:List Deferred} {ops tail:List Oper} {Q:Exit->Act->World->Prop} {o:Oper} {rest:List Oper} {env:Env} {bxs:List Bx} {A A2:World->Prop} {R:Act->World->Prop}
theorem UQ (h:WL r n P N D ops Q tail env A):WQ P N D ops A (wpListIn (Fw r) n P ops.toArray Q tail) [] env A:=⟨fun a W h1 h2 h3=>h.out a W h1 h2 h3⟩
theorem Nj {d:Nat} {v:Value} (hd:o.dst=some d) (h1: ∀(a:Act) (W:World),a.tmps.size=N->a.defers=D->A W->OpS A P ops o (ov env a) W v)
  (h:WQ P N D ops A2 R rest ((d,v)::env) A):WQ P N D ops A2 R (o::rest) env A:=
 ⟨v,h1,by rw[hd];exact h.out⟩
theorem Eh {d:Nat} {v:Value} (hg:Aw ops N env o=some true) (hd:o.dst=some d) (hnd: ∀c,o.op≠ .defer c)
  (hv: ∀(ρ:Operand->Value) (W:World),(∀x u,evO N env x=some u->ρ x=u)->A W->(execOp ρ o).run P W= .ok (.value v) W)
  (h:WQ P N D ops A2 R rest ((d,v)::env) A):WQ P N D ops A2 R (o::rest) env A:=
 Nj hd (fun a W ha _ hp=>by
  unfold OpS
  rw[Es ha hg,if_pos rfl]
  exact⟨hnd, .inl (hv _ W (AB ha) hp)⟩) h
theorem Bi {d:Nat} (hg:Aw ops N env o=some false) (hd:o.dst=some d) (h:WQ P N D ops A2 R rest ((d,undef)::env) A):WQ P N D ops A2 R (o::rest) env A:=
 Nj hd (fun a W ha _ hp=>by
  unfold OpS
  rw[Es ha hg,if_neg (by simp)]) h
theorem Ca {T:Tbl} {d:Nat} {v:Value} (hT:okB P T=true) (hg:Aw ops N env o=some true) (hd:o.dst=some d) (hv:AC T (evO N env) o.op=some v)
  (h:WQ P N D ops A2 R rest ((d,v)::env) A):WQ P N D ops A2 R (o::rest) env A:=
 Eh hg hd (Ix hv) (fun _ W hρ _=>Lc hT hρ hv W) h
theorem DO {d:Nat} {t u:TypeId} {x y:Operand} {k:IntKind} {a b:Int} (hg:Aw ops N env o=some true) (hd:o.dst=some d) (ho:o.op= .binOp .rem t x y u)
  (hx:evO N env x=some (.int k a)) (hy:evO N env y=some (.int k b)) (hb:b≠0)
  (h:WQ P N D ops A2 R rest ((d, .int k (a.tmod b))::env) A):WQ P N D ops A2 R (o::rest) env A:=
 Eh hg hd (fun c e=>by rw[ho] at e;cases e) (fun _ W hρ _=>VV ho (hρ _ _ hx) (hρ _ _ hy) hb W) h
theorem Kr {d:Nat} {t u:TypeId} {x y:Operand} {k:IntKind} {a b:Int} (hg:Aw ops N env o=some true) (hd:o.dst=some d) (ho:o.op= .binOp .quo t x y u)
  (hx:evO N env x=some (.int k a)) (hy:evO N env y=some (.int k b)) (hb:b≠0)
  (h:WQ P N D ops A2 R rest ((d, .int k (k.wrap (a.tdiv b)))::env) A):WQ P N D ops A2 R (o::rest) env A:=
 Eh hg hd (fun c e=>by rw[ho] at e;cases e) (fun _ W hρ _=>VN ho (hρ _ _ hx) (hρ _ _ hy) hb W) h
theorem Ss {T:Tbl} {i:TI} {d:Nat} {t:TypeId} {x y:Operand} {k:IntKind} {b off len cap:Nat} {z:Int} (hT:okB P T=true) (hg:Aw ops N env o=some true) (hd:o.dst=some d) (ho:o.op= .indexAddr t x y)
  (ht:Cw T t=some i) (hk:i.kind=2) (hx:evO N env x=some (.slice (some ⟨b,off,none⟩) len cap)) (hy:evO N env y=some (.int k z)) (h0:0<=z) (h1:z<len)
  (h:WQ P N D ops A2 R rest ((d, .pointer (some ⟨b,off+z.toNat*i.elemSize,none⟩))::env) A):WQ P N D ops A2 R (o::rest) env A:=
 Eh hg hd (fun c e=>by rw[ho] at e;cases e) (fun _ W hρ _=>JO hT ho ht hk (hρ _ _ hx) (hρ _ _ hy) h0 h1 W) h
theorem KC {d:Nat} {t:TypeId} {x:Operand} {a:Addr} {v:Value} (hg:Aw ops N env o=some true) (hd:o.dst=some d) (ho:o.op= .load t x)
  (hx:evO N env x=some (.pointer (some a))) (hl: ∀W,A W->(loadVar t a).run P W= .ok v W)
  (h:WQ P N D ops A2 R rest ((d,v)::env) A):WQ P N D ops A2 R (o::rest) env A:=
 Eh hg hd (fun c e=>by rw[ho] at e;cases e) (fun _ W hρ hp=>TR ho (hρ _ _ hx) (hl W hp)) h
theorem Xj (k:Nat) {T:Tbl} {i:TI} {d:Nat} {t:TypeId} {x:Operand} {B:Bx} {off:Nat} {v:Value} (hT:okB P T=true) (hg:Aw ops N env o=some true) (hd:o.dst=some d) (ho:o.op= .load t x) (ht:Cw T t=some i)
  (hk:nth bxs k=some B) (hx:evO N env x=some (.pointer (some ⟨B.b,off,none⟩))) (hon:B.row=true) (hv:DZ B.cells off i=some v)
  (h:WQ P N D ops A2 R rest ((d,v)::env) (Hp W0 bxs)):WQ P N D ops A2 R (o::rest) env (Hp W0 bxs):=
 KC hg hd ho hx (No hT ht hk hon hv) h
theorem Uf {T:Tbl} {i:TI} {d:Nat} {t:TypeId} {parts:Array (Nat×Operand)} {vs:List (Nat×Value)} (z:Value) {c:List Value} (hT:okB P T=true) (hg:Aw ops N env o=some true) (hd:o.dst=some d) (ho:o.op= .build t parts) (ht:Cw T t=some i) (hk:i.kind=4)
  (hz: ∀W,(zeroValue t).run P W= .ok z W) (hp:DV (evO N env) parts.toList=some vs) (hc:GD (JZ i.fields) z.cells.toList vs=some c)
  (h:WQ P N D ops A2 R rest ((d, .agg c.toArray)::env) A):WQ P N D ops A2 R (o::rest) env A:=
 Eh hg hd (fun c e=>by rw[ho] at e;cases e) (fun ρ W hρ _=>Qk hT ho ht hk hz (Ej hρ hp) hc W) h
theorem Ho {c:Call} {f:Operand} {g d:Nat} {capt vs:List Value} {v:Value}
  (hg:Aw ops N env o=some true) (hd:o.dst=some d) (ho:o.op= .call c) (hc:c.callee= .value f) (hf:evO N env f=some (.func (.func g) #[] capt.toArray)) (ha:Cn (evO N env) c.args.toList=some vs) (hE:AS P g=true)
  (hC: ∀W,Hp W0 bxs W->Ae P g (vs++capt).toArray W (fun _:Unit=>v) (fun _=>True) (fun _=>[]))
  (h:WQ P N D ops A2 R rest ((d,v)::env) (Hp W0 bxs)):WQ P N D ops A2 R (o::rest) env (Hp W0 bxs):=
 Nj hd (fun a W h1 _ hp=>by
  unfold OpS
  rw[Es h1 hg,if_pos rfl]
  refine⟨fun c e=>(by rw[ho] at e;cases e), .inr ⟨g,_,IJ ho hc (AB h1 _ _ hf) (E5 (AB h1) ha) hE,(hC W hp).out.mono ?_⟩⟩
  rintro e W' ⟨x,he,_,hb,_⟩
  exact⟨he,hp.grow hb,hb⟩) h
theorem HD (t:Nat) {l:List Oper} {b:Bool} (ht:evO N env (.tmp t)=some (.bool b)) (h1:b=true->WQ P N D ops A2 R l ((t, .bool true)::env) A) (h2:b=false->WQ P N D ops A2 R l ((t, .bool false)::env) A):
  WQ P N D ops A2 R l env A:=by
 obtain⟨hlt,ht⟩:=FI ht
 cases b
 ·refine⟨J2 (fun a ha=> ?_) (h2 rfl).out⟩
  rw[ES,F4 (DQ ht (by omega))]
 ·refine⟨J2 (fun a ha=> ?_) (h1 rfl).out⟩
  rw[ES,F4 (DQ ht (by omega))]
theorem Ap (t:Nat) (u:Value) {l:List Oper} {v:Value} (ht:evO N env (.tmp t)=some v) (e:v=u) (h:WL r n P N D ops Q l ((t,u)::env) A):WL r n P N D ops Q l env A:= .mk fun a W ha hd hp=>by
 obtain⟨hlt,ht⟩:=FI ht
 have:=h.out a W ha hd hp
 rwa [ES,F4 (by rw[<-e];exact DQ ht (by omega))] at this
theorem Bh (t:Nat) (u:Value) {c:Code} {v:Value} (ht:evO N env (.tmp t)=some v) (e:v=u) (h:WC r n P N D c Q ((t,u)::env) A):WC r n P N D c Q env A:= .mk fun a W ha hd hp=>by
 obtain⟨hlt,ht⟩:=FI ht
 have:=h.out a W ha hd hp
 rwa [ES,F4 (by rw[<-e];exact DQ ht (by omega))] at this
theorem Fa (t:Nat) (u:Value) {l:List Oper} {v:Value} (ht:evO N env (.tmp t)=some v) (e:v=u) (h:WQ P N D ops A2 R l ((t,u)::env) A):WQ P N D ops A2 R l env A:=by
 obtain⟨hlt,ht⟩:=FI ht
 refine⟨J2 (fun a ha=> ?_) h.out⟩
 rw[ES,F4 (by rw[<-e];exact DQ ht (by omega))]
structure UU (N:Nat) (D:List Deferred) (L:Env) (a:Act):Prop where
 size:a.tmps.size=N
 defers:a.defers=D
 get: ∀p∈L,a.tmps[p.1]? =some p.2
def Ic (N:Nat) (env:Env):Env->Prop
 |[]=>True
 |(t,v)::L=>evO N env (.tmp t)=some v/\Ic N env L
theorem HJ {L:Env} {a:Act} (ha:a.tmps.size=N) (hd:a.defers=D) (h:Ic N env L):UU N D L (ov env a):=by
 refine⟨by rw[We,ha],by rw[B7,hd], ?_⟩
 induction L with
 |nil=>intro p hp;cases hp
 |cons q L ih=>
  obtain⟨t,v⟩:=q
  intro p hp
  rcases List.mem_cons.1 hp with rfl|hp
  ·obtain⟨hlt,ht⟩:=FI h.1
   exact DQ ht (by omega)
  ·exact ih h.2 p hp
structure Th (N:Nat) (D:List Deferred) {X:Type} (L:X->Env) (B:X->World->Prop) (Φ:X->Prop) (μ:X->Nat) (m:Nat) (a:Act) (W:World):Prop where
 out: ∃x,Φ x/\μ x<m/\UU N D (L x) a/\B x W
theorem Di {c:Code} {X:Type} (L:X->Env) (B:X->World->Prop) (Φ:X->Prop) (μ:X->Nat) (x0:X) (h0:Φ x0) (hL:Ic N env (L x0)) (hB: ∀W,A W->B x0 W)
  (round: ∀x,Φ x->WC r n P N D c (Exit.then (Th N D L B Φ μ (μ x)) Q) (L x) (B x)):WC r n P N D (.loop c) Q env A:= .mk fun a W ha hd hp=>by
 refine wpIn_loop_ghost (fun m a W=> ∃x,Φ x/\μ x=m/\UU N D (L x) a/\B x W) (μ x0) ⟨x0,h0,rfl,HJ ha hd hL,hB W hp⟩ ?_
 rintro m a W ⟨x,hx,hm,hl,hp⟩
 have:=(round x hx).out a W hl.size hl.defers hp
 rw[FG (fun p hp _=>hl.get p hp)] at this
 refine wpIn_mono this ?_
 intro e a' W' hq
 cases e with
 |normal=>
  obtain⟨y,h1,h2,h3,h4⟩:=Th.out hq
  exact⟨μ y,hm▸h2,y,h1,rfl,h3,h4⟩
 |_=>exact hq
theorem Dh {X:Type} {L:X->Env} {B:X->World->Prop} {Φ:X->Prop} {μ:X->Nat} {m:Nat} (x:X) (hx:Φ x) (hm:μ x<m) (hL:Ic N env (L x)) (hB: ∀W,A W->B x W):NE N D (Exit.then (Th N D L B Φ μ m) Q) .normal env A:= .mk fun _ W ha hd hp=>
 ⟨x,hx,hm,HJ ha hd hL,hB W hp⟩
theorem Av {c:Code} {X:Type} (L:X->Env) (B:X->List Bx) (Φ:X->Prop) (μ:X->Nat) (x0:X) (h0:Φ x0) (hL:Ic N env (L x0)) (nb:List Bx) (hB:bxs=B x0++nb)
  (round: ∀x,Φ x->WC r n P N D c (Exit.then (Th N D L (fun x=>Hp W0 (B x)) Φ μ (μ x)) Q) (L x) (Hp W0 (B x))):WC r n P N D (.loop c) Q env (Hp W0 bxs):=
 Di L (fun x=>Hp W0 (B x)) Φ μ x0 h0 hL (fun W hp=>by rw[hB] at hp;exact hp.take) round
theorem Al {X:Type} {L:X->Env} {B:X->List Bx} {Φ:X->Prop} {μ:X->Nat} {m:Nat} (x:X) (hx:Φ x) (hm:μ x<m) (hL:Ic N env (L x)) (nb:List Bx) (hB:bxs=B x++nb):NE N D (Exit.then (Th N D L (fun x=>Hp W0 (B x)) Φ μ m) Q) .normal env (Hp W0 bxs):=
 Dh x hx hm hL (fun W hp=>by rw[hB] at hp;exact hp.take)
end
end Go.Am
namespace Go.Am
open Go Go.RowKit
def eU (g:Nat):Bool:=Nat.beq g 999999||Nat.beq g 999999||Nat.beq g 999999||Nat.beq g 999999||Nat.beq g 247||Nat.beq g 249||Nat.beq g 255||Nat.beq g 999999||Nat.beq g 266||Nat.beq g 265
def f8 (o:Oper):Bool:=
 match o.op with
 | .store .. | .alloc .. | .box .. | .buildSlice .. | .makeSlice .. | .makeMap .. | .insert .. | .mapUpdate .. | .entryStore .. | .convert .. =>true
 | .call c=>match c.callee with
  | .builtin .append=>true
  | .builtin .copy=>true
  | .builtin .clear=>true
  | .builtin .delete=>true
  | .value (.func g)=>eU g
  |_=>false
 |_=>false
def GI:List Oper->Nat
 |[]=>0
 |o::l=>match f8 o with
  |true=>0
  |false=>GI l+1
theorem Qs: ∀l:List Oper,GI l<=l.length
 |[]=>Nat.le_refl _
 |o::l=>by
  unfold GI
  have:=Qs l
  split<;>simp<;>omega
theorem Vp {W0:World} {bxs:List Bx} (W:World) (h:Hp W0 bxs W):Hp W0 bxs { W with drawn:=W.drawn+1 }:=h.grow ⟨rfl,rfl,rfl,Nat.le_refl _,fun _ _=>rfl⟩
theorem TZ {r:Option Nat} {n:Nat} {P:Program} {W0:World} {N:Nat} {D:List Deferred} {ops:List Oper} {Q:Exit->Act->World->Prop} {bxs:List Bx} {id:Nat} {env:Env} (hm:P.follows .mixedOrders=true) (ho:TM ops (GI ops)=true)
  (hq:WQ P N D ops (Hp W0 bxs) (wpListIn (Fw r) n P ops.toArray Q (ops.drop (GI ops))) (ops.take (GI ops)) env (Hp W0 bxs)):WC r n P N D (.region id ops.toArray true) Q env (Hp W0 bxs):=
 Rb (GI ops) Vp hm ho (Nat.ble_eq_true_of_le (Qs ops)) hq
end Go.Am
namespace Go.Am
open Go Go.RowKit
structure I1 (rec:LoopState->Option Code->Loop):Prop where
 st: ∀s j,(rec s j).state=s
 pend: ∀s j,(rec s j).pending=j
 upd: ∀s j s' j', { rec s j with state:=s',pending:=j' }=rec s' j'
theorem I1.upd1 {rec:LoopState->Option Code->Loop} (h:I1 rec) (s:LoopState) (j:Option Code) (s':LoopState): { rec s j with state:=s' }=rec s' j:=by
 have:=h.upd s j s' j
 rw[<-this]
 have:=h.pend s j
 cases hr:rec s j
 rw[hr] at this
 simp at this
 subst this
 rfl
def Bp (l:Nat) (rec:LoopState->Option Code->Loop) (s:LoopState) (j:Option Code):Bx:=⟨l,0,[],true,some (.obj (.loop (rec s j)))⟩
structure S4 (P:Program) (gf:Nat) (lb:List Value) (m:Nat) (enc:Nat->List Value) (Need:Nat->World->Prop):Prop where
 out: ∀(l:Nat) (J:Nat->World->Prop) (Jx:World->Prop),(∀k W,J k W->Need k W)->(∀k W,J k W->J k { W with drawn:=W.drawn+1 })->
  (∀k W,k<m->J k W->YieldAt (Fw none) 0 P l (enc k).toArray W fun e W'=>(e= .returned (.bool true)/\J (k+1) W')\/(e= .returned (.bool false)/\Jx W'))->
  ∀W,J 0 W->CallsIn (Fw none) 0 P gf (.func (.yield l) #[] #[]::lb).toArray W fun e W'=>(∃v,e= .returned v)/\(J m W'\/Jx W')
structure Wx (P:Program) (gf:Nat) (lb:List Value) (m:Nat) (enc:Nat->List Value) (Need:World->Prop):Prop where
 out: ∀(l:Nat) (J:Nat->World->Prop) (Jx:World->Prop),(∀k W,J k W->Need W)->(∀k W,J k W->J k { W with drawn:=W.drawn+1 })->
  (∀k W,k<m->J k W->YieldAt (Fw none) 0 P l (enc k).toArray W fun e W'=>(e= .returned (.bool true)/\J (k+1) W')\/(e= .returned (.bool false)/\Jx W'))->
  ∀W,J 0 W->CallsIn (Fw none) 0 P gf (.func (.yield l) #[] #[]::lb).toArray W fun e W'=>(∃v,e= .returned v)/\(J m W'\/Jx W')
structure Zn (P:Program) (gf:Nat) (lb:List Value) (m:Nat) (enc:Nat->List Value) (Need:Nat->World->Prop):Prop where
 out: ∀(l:Nat) (J:Nat->World->Prop) (Jx:World->Prop),(∀k W,J k W->Need k W)->(∀k W W',J k W->Below W.heap.size W W'->J k W')->
  (∀k W,k<m->J k W->YieldAt (Fw none) 0 P l (enc k).toArray W fun e W'=>(e= .returned (.bool true)/\J (k+1) W')\/(e= .returned (.bool false)/\Jx W'))->
  ∀W,J 0 W->CallsIn (Fw none) 0 P gf (.func (.yield l) #[] #[]::lb).toArray W fun e W'=>(∃v,e= .returned v)/\(J m W'\/Jx W')
theorem S4.toG {P:Program} {gf:Nat} {lb:List Value} {m:Nat} {enc:Nat->List Value} {Need:Nat->World->Prop} (h:S4 P gf lb m enc Need):Zn P gf lb m enc Need:=
 ⟨fun l J Jx hN hB hY=>h.out l J Jx hN (fun k W hj=>hB k W _ hj ⟨rfl,rfl,rfl,Nat.le_refl _,fun _ _=>rfl⟩) hY⟩
theorem Wx.toK {P:Program} {gf:Nat} {lb:List Value} {m:Nat} {enc:Nat->List Value} {Need:World->Prop} (h:Wx P gf lb m enc Need):S4 P gf lb m enc (fun _=>Need):=⟨h.out⟩
theorem Nn {α:Type} {x y c:α} {i:Nat} (h:[x,y][i]? =some c):(i=0/\x=c)\/(i=1/\y=c):=by
 cases i with
 |zero=>left;exact⟨rfl,by simpa using h⟩
 |succ i=>cases i with
  |zero=>right;exact⟨rfl,by simpa using h⟩
  |succ i=>simp at h
theorem Au.two {W W':World} {A B:Bx} (hA:W'.heap[A.b]? =some A.obj/\W.heap.size<=A.b) (hB:W'.heap[B.b]? =some B.obj/\W.heap.size<=B.b) (hne:A.b≠B.b) (hm:A.sole=true:=by rfl) (hm':B.sole=true:=by rfl):Au W W' [A,B]:=by
 have hA1:=Own.one_sole hm hA
 have hB1:=Own.one_sole hm' hB
 refine⟨fun i C hi=> ?_,fun i C hi=> ?_,fun i j C E hi hj hij p hp q hq=> ?_⟩
 ·rcases Nn hi with⟨_,rfl⟩|⟨_,rfl⟩
  ·exact hA1.cell 0 _ rfl
  ·exact hB1.cell 0 _ rfl
 ·rcases Nn hi with⟨_,rfl⟩|⟨_,rfl⟩
  ·exact hA1.nd 0 _ rfl
  ·exact hB1.nd 0 _ rfl
 ·rcases Nn hi with⟨rfl,rfl⟩|⟨rfl,rfl⟩<;>rcases Nn hj with⟨rfl,rfl⟩|⟨rfl,rfl⟩
  ·exact absurd rfl hij
  ·rw[Bx.sole_blk hm] at hp;rw[Bx.sole_blk hm'] at hq
   obtain rfl:=List.mem_singleton.1 hp
   obtain rfl:=List.mem_singleton.1 hq
   exact hne
  ·rw[Bx.sole_blk hm'] at hp;rw[Bx.sole_blk hm] at hq
   obtain rfl:=List.mem_singleton.1 hp
   obtain rfl:=List.mem_singleton.1 hq
   exact hne.symm
  ·exact absurd rfl hij
section
variable {P:Program} {W0:World} {N:Nat} {D:List Deferred} {env:Env} {bxs:List Bx} {Q:Exit->Act->World->Prop}
def JR {X:Type} (W0:World) (B:X->List Bx) (Φ:Nat->X->Prop) (d l:Nat) (rec:LoopState->Option Code->Loop) (k:Nat) (W:World):Prop:= ∃x,Φ k x/\Hp W0 (B x++[BL d,Bp l rec .ready none]) W
def JX {X:Type} (W0:World) (B:X->List Bx) (Ψ:Code->X->Prop) (d l:Nat) (rec:LoopState->Option Code->Loop) (W:World):Prop:= ∃c x,Ψ c x/\Hp W0 (B x++[BL d,Bp l rec .done (some c)]) W
structure Si {X:Type} (P:Program) (W0:World) (B:X->List Bx) (Φ:Nat->X->Prop) (Ψ:Code->X->Prop) (d l:Nat) (rec:LoopState->Option Code->Loop) (k:Nat) (e:Exit) (a:Act) (W:World):Prop where
 out:roundPost P l (fun e W'=>(e= .returned (.bool true)/\JR W0 B Φ d l rec (k+1) W')\/(e= .returned (.bool false)/\JX W0 B Ψ d l rec W')) e a W
structure XG {X:Type} (P:Program) (W0:World) (B:X->List Bx) (Φ:Nat->X->Prop) (Ψ:Code->X->Prop) (d l:Nat) (rec:LoopState->Option Code->Loop) (k:Nat) (body:Code) (e:Exit) (a:Act) (W:World):Prop where
 out:Exit.then (fun a₁ w₁=> ∃w₂,(Instr.beginRound l).run P w₁= .ok () w₂/\body.wpIn (Fw (some l)) 0 P (Si P W0 B Φ Ψ d l rec k) a₁ w₂) (fun _ _ _=>False) e a W
variable {X:Type} {B:X->List Bx} {Φ:Nat->X->Prop} {Ψ:Code->X->Prop} {d l:Nat} {rec:LoopState->Option Code->Loop} {k:Nat}
theorem BU (i:Nat) {body:Code} (hrec:I1 rec) (hi:nth bxs i=some (Bp l rec .ready none))
  (h:WC (some l) 0 P N [] body (Si P W0 B Φ Ψ d l rec k) env (Hp W0 (bxs.set i (Bp l rec .busy none)))):NE N [] (XG P W0 B Φ Ψ d l rec k body) .normal env (Hp W0 bxs):= .mk fun a W ha hd hp=>by
 rw[Bv] at hi
 have hb:=(hp.at_ _ _ hi rfl).1
 refine .mk ⟨_,run_beginRound hb (hrec.st _ _),h.out a _ ha hd ?_⟩
 refine hp.updO hi rfl rfl ⟨rfl,rfl,rfl, ?_⟩
 rw[hrec.upd1]
 rfl
theorem By (i:Nat) (x:X) (hrec:I1 rec) (hi:nth bxs i=some (Bp l rec .busy none)) (hx:Φ (k+1) x) (nb:List Bx) (hB:bxs.set i (Bp l rec .ready none)=B x++[BL d,Bp l rec .ready none]++nb):
  NE N [] (Si P W0 B Φ Ψ d l rec k) .normal env (Hp W0 bxs):= .mk fun a W ha hd hp=>by
 rw[Bv] at hi
 have hb:=(hp.at_ _ _ hi rfl).1
 refine .mk ⟨_,_,run_endRound none hb, .inl ⟨rfl,x,hx, ?_⟩⟩
 have:=hp.updO (W':=W.putObj l (.loop { rec .busy none with state:= .ready,pending:=none })) hi rfl (B':=Bp l rec .ready none) rfl ⟨rfl,rfl,rfl,by rw[hrec.upd];rfl⟩
 rw[hB] at this
 exact this.take
theorem DF (i:Nat) (x:X) (hrec:I1 rec) (hi:nth bxs i=some (Bp l rec .busy none)) (hx:Ψ .ret x) (nb:List Bx) (hB:bxs.set i (Bp l rec .done (some .ret))=B x++[BL d,Bp l rec .done (some .ret)]++nb):
  NE N [] (Si P W0 B Φ Ψ d l rec k) .ret env (Hp W0 bxs):= .mk fun a W ha hd hp=>by
 rw[Bv] at hi
 have hb:=(hp.at_ _ _ hi rfl).1
 refine .mk ⟨_,_,run_endRound (some .ret) hb, .inr ⟨rfl,_,x,hx, ?_⟩⟩
 have:=hp.updO (W':=W.putObj l (.loop { rec .busy none with state:= .done,pending:=some .ret })) hi rfl (B':=Bp l rec .done (some .ret)) rfl ⟨rfl,rfl,rfl,by rw[hrec.upd];rfl⟩
 rw[hB] at this
 exact this.take
def Eg:List Nat->List Value->Env->Env
 |p::ps,v::vs,env=>Eg ps vs ((p,v)::env)
 |_,_,env=>env
theorem Mf: ∀(ps:List Nat) (vs:List Value) (env:Env) (a:Act),(ov (Eg ps vs env) a).tmps=(ps.zip vs).foldl (fun t (x:Nat×Value)=>t.setIfInBounds x.1 x.2) (ov env a).tmps
 |[],vs,env,a=>by cases vs<;>simp[Eg]
 |p::ps,[],env,a=>by simp[Eg]
 |p::ps,v::vs,env,a=>by
  rw[Eg,Mf ps vs]
  simp[ES,Act.put]
theorem Nk (env:Env) (a:Act) (D:List Deferred):ov env { tmps:=a.tmps,defers:=D }= { tmps:=(ov env a).tmps,defers:=D }:=by
 have h1:=Lt env { tmps:=a.tmps,defers:=D } a rfl
 have h2:=B7 env { tmps:=a.tmps,defers:=D }
 cases hA:ov env { tmps:=a.tmps,defers:=D }
 rw[hA] at h1 h2
 simp only at h1 h2
 rw[h1,h2]
theorem Qg {f:Operand} {ps:Array Nat} {assign body:Code} {gf m:Nat} {lb:List Value} {enc:Nat->List Value} {Need:Nat->World->Prop} (B:X->List Bx) (Φ:Nat->X->Prop) (Ψ:Code->X->Prop) (x0:X)
  (hf:evO N env f=some (.func (.func gf) #[] lb.toArray)) (hE:AS P gf=true) (hI:Zn P gf lb m enc Need) (hps: ∀k,(enc k).length=ps.size)
  (h0:Φ 0 x0) (nb:List Bx) (hB:bxs=B x0++nb) (hN: ∀k x W,Φ k x->Hp W0 (B x) W->Need k W)
  (hbody: ∀(k:Nat) (x:X) (d l:Nat) (rec:LoopState->Option Code->Loop),k<m->Φ k x->I1 rec->
   WC (some l) 0 P N [] assign (XG P W0 B Φ Ψ d l rec k body) (Eg ps.toList (enc k) env) (Hp W0 (B x++[BL d,Bp l rec .ready none])))
  (hdone: ∀(x:X) (d l:Nat) (rec:LoopState->Option Code->Loop),Φ m x->NE N (Dz d::D) Q .normal env (Hp W0 (B x++[BL d,Bp l rec .exhausted none])))
  (hjump: ∀(x:X) (d l:Nat) (rec:LoopState->Option Code->Loop) (c:Code),Ψ c x->WC none 0 P N (Dz d::D) c Q env (Hp W0 (B x++[BL d,Bp l rec .exhausted (some c)]))):
  WC none 0 P N D (.rangeFunc f ps assign body) Q env (Hp W0 bxs):= .mk fun a W ha hd hp=>by
 refine wpIn_rangeFunc ?_
 intro fn _
 obtain⟨rec,hr⟩: ∃rec:LoopState->Option Code->Loop,rec=fun s j=> { state:=s,pending:=j,fn,tmps:=(ov env a).tmps,params:=ps,assign,body,defers:=W.heap.size }:=⟨_,rfl⟩
 have hrec:I1 rec:=by subst hr;exact⟨fun _ _=>rfl,fun _ _=>rfl,fun _ _ _ _=>rfl⟩
 obtain⟨W1,hW1⟩: ∃W1,(W.alloc (.deferred (some []))).alloc (.loop (rec .ready none))=W1:=⟨_,rfl⟩
 have hpB:Hp W0 (B x0) W:=by rw[hB] at hp;exact hp.take
 have hp1:Hp W0 (B x0++[BL W.heap.size,Bp (W.heap.size+1) rec .ready none]) W1:=by
  have hb:Below W.heap.size W W1:=by rw[<-hW1];exact((Below.refl _ W).alloc (Nat.le_refl _) _).alloc (by simp) _
  refine hpB.append hb (Au.two ⟨?_,Nat.le_refl _⟩ ⟨?_,Nat.le_succ _⟩ (Nat.ne_of_lt (Nat.lt_succ_self _)))
  ·show W1.heap[W.heap.size]? =some (.deferred (some []))
   rw[<-hW1]
   exact(Below.heap_alloc _ _ _ (by simp)).trans (World.alloc_heap_new W _)
  ·show W1.heap[W.heap.size+1]? =some (.loop (rec .ready none))
   rw[<-hW1]
   have:=World.alloc_heap_new (W.alloc (.deferred (some []))) (.loop (rec .ready none))
   rwa [World.size_alloc] at this
 refine⟨W.heap.size+1,[Dz W.heap.size],W1, { target:= .fn (.func gf) lb.toArray,args:= #[.func (.yield (W.heap.size+1)) #[] #[]] },W1,gf,
  (.func (.yield (W.heap.size+1)) #[] #[]::lb).toArray,W1, ?_, ?_,fun _ _=>trivial, ?_,fun h=>(by cases h), ?_⟩
 ·rw[<-hW1,hr];exact run_enterLoop_outer _ _ _ _ _
 ·have hc: ∀v,(ov env a).eval (.const v)=v:=fun _=>rfl
  simp only[resolve]
  rw[AB ha _ _ hf]
  simp[Deferred.ofValue,hc]
 ·simp only[invoke,G9 hE]
  simp
 ·refine(hI.out (W.heap.size+1) (JR W0 B Φ W.heap.size (W.heap.size+1) rec) (JX W0 B Ψ W.heap.size (W.heap.size+1) rec) (fun k W ⟨x,hx,hp⟩=>hN k x W hx hp.take) (fun k W W2 ⟨x,hx,hp⟩ hb=>⟨x,hx,hp.grow hb⟩) ?_ W1 ⟨x0,h0,hp1⟩).mono ?_
  ·rintro k W2 hk ⟨x,hx,hp2⟩
   have hL:=(hp2.at_ ((B x).length+1) (Bp (W.heap.size+1) rec .ready none) (by rw[List.getElem?_append_right (by omega)];simp) rfl).1
   refine⟨fn,(ps.zip (enc k).toArray).foldl (fun tmps (x:Nat×Value)=>tmps.setIfInBounds x.1 x.2) (ov env a).tmps,assign,body, ?_, ?_⟩
   ·have:=run_yield (P:=P) (args:=(enc k).toArray) hL (by subst hr;simpa using hps k)
    subst hr
    exact this
   ·refine roundIn_of_wpIn (F:=Fw none) trivial ?_
    have hb:=(hbody k x W.heap.size (W.heap.size+1) rec hk hx hrec).out { tmps:=a.tmps,defers:=[] } W2 ha rfl hp2
    have e:({ tmps:=(ps.zip (enc k).toArray).foldl (fun tmps (x:Nat×Value)=>tmps.setIfInBounds x.1 x.2) (ov env a).tmps,defers:=[] }:Act)=ov (Eg ps.toList (enc k) env) { tmps:=a.tmps,defers:=[] }:=by
     have h1:=Mf ps.toList (enc k) env { tmps:=a.tmps,defers:=[] }
     rw[Lt env { tmps:=a.tmps,defers:=[] } a rfl] at h1
     have h2:(ov (Eg ps.toList (enc k) env) { tmps:=a.tmps,defers:=[] }).defers=[]:=B7 _ _
     cases hA:ov (Eg ps.toList (enc k) env) { tmps:=a.tmps,defers:=[] }
     rw[hA] at h1 h2
     simp only at h1 h2
     subst h2
     congr 1
     rw[h1, <-Array.foldl_toList]
     simp
    have e':(rec .ready none).params=ps/\(rec .ready none).tmps=(ov env a).tmps:=by subst hr;exact⟨rfl,rfl⟩
    rw[<-e] at hb
    refine wpIn_mono hb ?_
    intro ex a2 W3 hq
    have hq:=hq.out
    cases ex with
    |normal=>
     obtain⟨w2,h1,h2⟩:=hq
     exact⟨w2,h1,wpIn_mono h2 fun _ _ _ h=>h.out⟩
    |_=>exact hq
  ·rintro e W2 ⟨⟨v,rfl⟩,(⟨x,hx,hp2⟩|⟨c,x,hx,hp2⟩)⟩
   ·have hi:(B x++[BL W.heap.size,Bp (W.heap.size+1) rec .ready none])[(B x).length+1]? =some (Bp (W.heap.size+1) rec .ready none):=by rw[List.getElem?_append_right (by omega)];simp
    have hL:=(hp2.at_ _ _ hi rfl).1
    refine⟨_,_,run_endLoop hL (by rw[hrec.st];simp), ?_⟩
    rw[hrec.pend]
    have hp3:=hp2.updO (W':=W2.putObj (W.heap.size+1) (.loop { rec .ready none with state:= .exhausted })) hi rfl (B':=Bp (W.heap.size+1) rec .exhausted none) rfl ⟨rfl,rfl,rfl,by rw[hrec.upd1];rfl⟩
    have hset:(B x++[BL W.heap.size,Bp (W.heap.size+1) rec .ready none]).set ((B x).length+1) (Bp (W.heap.size+1) rec .exhausted none)=B x++[BL W.heap.size,Bp (W.heap.size+1) rec .exhausted none]:=by
     rw[List.set_append_right _ _ (by omega)];simp
    rw[hset] at hp3
    have:=(hdone x W.heap.size (W.heap.size+1) rec hx).out { tmps:=a.tmps,defers:=Dz W.heap.size::D } _ ha rfl hp3
    rw[Nk, <-hd, <-B7 env a] at this
    simp only[hrec.pend] at this⊢
    exact this
   ·have hi:(B x++[BL W.heap.size,Bp (W.heap.size+1) rec .done (some c)])[(B x).length+1]? =some (Bp (W.heap.size+1) rec .done (some c)):=by rw[List.getElem?_append_right (by omega)];simp
    have hL:=(hp2.at_ _ _ hi rfl).1
    refine⟨_,_,run_endLoop hL (by rw[hrec.st];simp), ?_⟩
    rw[hrec.pend]
    have hp3:=hp2.updO (W':=W2.putObj (W.heap.size+1) (.loop { rec .done (some c) with state:= .exhausted })) hi rfl (B':=Bp (W.heap.size+1) rec .exhausted (some c)) rfl ⟨rfl,rfl,rfl,by rw[hrec.upd1];rfl⟩
    have hset:(B x++[BL W.heap.size,Bp (W.heap.size+1) rec .done (some c)]).set ((B x).length+1) (Bp (W.heap.size+1) rec .exhausted (some c))=B x++[BL W.heap.size,Bp (W.heap.size+1) rec .exhausted (some c)]:=by
     rw[List.set_append_right _ _ (by omega)];simp
    rw[hset] at hp3
    have:=(hjump x W.heap.size (W.heap.size+1) rec c hx).out { tmps:=a.tmps,defers:=Dz W.heap.size::D } _ ha rfl hp3
    rw[Nk, <-hd, <-B7 env a] at this
    simp only[hrec.pend] at this⊢
    exact this
theorem Qm {f:Operand} {ps:Array Nat} {assign body:Code} {gf m:Nat} {lb:List Value} {enc:Nat->List Value} {Need:Nat->World->Prop} (B:X->List Bx) (Φ:Nat->X->Prop) (Ψ:Code->X->Prop) (x0:X)
  (hf:evO N env f=some (.func (.func gf) #[] lb.toArray)) (hE:AS P gf=true) (hI:S4 P gf lb m enc Need) (hps: ∀k,(enc k).length=ps.size)
  (h0:Φ 0 x0) (nb:List Bx) (hB:bxs=B x0++nb) (hN: ∀k x W,Φ k x->Hp W0 (B x) W->Need k W)
  (hbody: ∀(k:Nat) (x:X) (d l:Nat) (rec:LoopState->Option Code->Loop),k<m->Φ k x->I1 rec->
   WC (some l) 0 P N [] assign (XG P W0 B Φ Ψ d l rec k body) (Eg ps.toList (enc k) env) (Hp W0 (B x++[BL d,Bp l rec .ready none])))
  (hdone: ∀(x:X) (d l:Nat) (rec:LoopState->Option Code->Loop),Φ m x->NE N (Dz d::D) Q .normal env (Hp W0 (B x++[BL d,Bp l rec .exhausted none])))
  (hjump: ∀(x:X) (d l:Nat) (rec:LoopState->Option Code->Loop) (c:Code),Ψ c x->WC none 0 P N (Dz d::D) c Q env (Hp W0 (B x++[BL d,Bp l rec .exhausted (some c)]))):
  WC none 0 P N D (.rangeFunc f ps assign body) Q env (Hp W0 bxs):=
 Qg B Φ Ψ x0 hf hE hI.toG hps h0 nb hB hN hbody hdone hjump
theorem EQ {f:Operand} {ps:Array Nat} {assign body:Code} {gf m:Nat} {lb:List Value} {enc:Nat->List Value} {Need:World->Prop} (B:X->List Bx) (Φ:Nat->X->Prop) (Ψ:Code->X->Prop) (x0:X)
  (hf:evO N env f=some (.func (.func gf) #[] lb.toArray)) (hE:AS P gf=true) (hI:Wx P gf lb m enc Need) (hps: ∀k,(enc k).length=ps.size)
  (h0:Φ 0 x0) (nb:List Bx) (hB:bxs=B x0++nb) (hN: ∀k x W,Φ k x->Hp W0 (B x) W->Need W)
  (hbody: ∀(k:Nat) (x:X) (d l:Nat) (rec:LoopState->Option Code->Loop),k<m->Φ k x->I1 rec->
   WC (some l) 0 P N [] assign (XG P W0 B Φ Ψ d l rec k body) (Eg ps.toList (enc k) env) (Hp W0 (B x++[BL d,Bp l rec .ready none])))
  (hdone: ∀(x:X) (d l:Nat) (rec:LoopState->Option Code->Loop),Φ m x->NE N (Dz d::D) Q .normal env (Hp W0 (B x++[BL d,Bp l rec .exhausted none])))
  (hjump: ∀(x:X) (d l:Nat) (rec:LoopState->Option Code->Loop) (c:Code),Ψ c x->WC none 0 P N (Dz d::D) c Q env (Hp W0 (B x++[BL d,Bp l rec .exhausted (some c)]))):
  WC none 0 P N D (.rangeFunc f ps assign body) Q env (Hp W0 bxs):=
 Qm B Φ Ψ x0 hf hE hI.toK hps h0 nb hB hN hbody hdone hjump
end
end Go.Am
namespace Go.Am
open Go Go.RowKit
theorem Au.of_hp {W0 W:World} {bxs:List Bx} (h:Hp W0 bxs W):Au W0 W bxs:=h.own
theorem Au.of_hp1 {W0 W:World} {bxs:List Bx} (h:Hp W0 bxs W) (k:Nat) {B:Bx} (hk:nth bxs k=some B):Au W0 W [B]:=by
 rw[Bv] at hk
 exact Own.one (h.own.cell k B hk) (h.own.nd k B hk)
structure VL (P:Program) (fn:Func) (Jm Jx:World->Prop) (e:Exit) (a:Act) (W:World):Prop where
 out:bodyPost P fn (fun e W'=>(∃v,e= .returned v)/\(Jm W'\/Jx W')) e a W
theorem Da {P:Program} {f:Nat} {fn:Func} {c:Code} {args:List Value} {N:Nat} {J0 Jm Jx:World->Prop} {W:World}
  (hf:P.funcs[f]? =some fn) (hb:fn.body=some c) (hN:fn.ntmps=N) (hl:Nat.ble args.length N=true) (hJ:J0 W)
  (h:WC none 0 P N [] c (VL P fn Jm Jx) (LJ 0 args) J0):CallsIn (Fw none) 0 P f args.toArray W fun e W'=>(∃v,e= .returned v)/\(Jm W'\/Jx W'):=by
 have hl:args.length<=N:=Nat.le_of_ble_eq_true hl
 have h1:=h.out { tmps:=args.toArray++Array.replicate (fn.ntmps-args.toArray.size) undef,defers:=[] } W (by simp[hN];omega) rfl hJ
 rw[FG] at h1
 ·exact callsIn_of_wp hf hb trivial (wpIn_mono (Q:=VL P fn Jm Jx) h1 fun _ _ _ h=>h.out)
 ·intro p hp _
  obtain⟨_,h2⟩:=HE args 0 p hp
  rw[Nat.sub_zero] at h2
  have hlt:=(List.getElem?_eq_some_iff.1 h2).1
  rw[Array.getElem?_append_left (by simpa using hlt)]
  simpa using h2
section
variable {r:Option Nat} {n:Nat} {P:Program} {W0:World} {N:Nat} {D:List Deferred} {ops:List Oper} {Q:Exit->Act->World->Prop} {o:Oper} {rest:List Oper} {env:Env} {bxs:List Bx} {A A1 A2:World->Prop}
theorem FK {fn:Func} {Jm Jx:World->Prop} (hr:fn.results= #[]) (h: ∀W,A W->Jm W):NE N [] (VL P fn Jm Jx) .normal env A:= .mk fun a W ha hd hp=>
 .mk ⟨by rw[B7,hd],_,Lp hr _ _,⟨_,rfl⟩, .inl (h W hp)⟩
theorem Cp {fn:Func} {Jm Jx:World->Prop} (hr:fn.results= #[]) (h: ∀W,A W->Jx W):NE N [] (VL P fn Jm Jx) .ret env A:= .mk fun a W ha hd hp=>
 .mk ⟨by rw[B7,hd],_,Lp hr _ _,⟨_,rfl⟩, .inr (h W hp)⟩
theorem E7 {c:Call} {f:Operand} {l d:Nat} {vs:List Value} (hg:Aw ops N env o=some true) (hd:o.dst=some d) (ho:o.op= .call c) (hc:c.callee= .value f)
  (hf:evO N env f=some (.func (.yield l) #[] #[])) (ha:Cn (evO N env) c.args.toList=some vs)
  (hY: ∀W,A W->YieldAt (Fw none) 0 P l vs.toArray W fun e W'=>(e= .returned (.bool true)/\A1 W')\/(e= .returned (.bool false)/\A2 W'))
  (h1:WL r 0 P N D ops Q rest ((d, .bool true)::env) A1) (h2:WL r 0 P N D ops Q rest ((d, .bool false)::env) A2):WL r 0 P N D ops Q (o::rest) env A:= .mk fun a W e1 e2 hp=>by
 refine BO hg e1 (fun c e=>by rw[ho] at e;cases e) ?_
 obtain⟨fn,tmps,assign,body,hy,hR⟩:=hY W hp
 have:(execOp (ov env a).eval o).run P W= .ok (.round l fn tmps assign body) W:=by
  simp only[execOp,ho,resolve,hc,AB e1 _ _ hf,E5 (AB e1) ha,Sem.run_bind,Deferred.ofValue,Sem.run_pure,Result.andThen_ok,invoke]
  simpa using hy
 rw[this]
 refine⟨fun hx=>(by cases hx), ?_⟩
 have hR':RoundIn (Fw r) 0 P l fn tmps assign body W _:=hR
 refine hR'.mono ?_
 rintro e W' (⟨rfl,h⟩|⟨rfl,h⟩)
 ·simp only[hd];exact h1.out a W' e1 e2 h
 ·simp only[hd];exact h2.out a W' e1 e2 h
end
end Go.Am
namespace Go.Am
open Go Go.RowKit
structure Aj (W:World) (b off:Nat) (c:List Value):Prop where
 lt:b<W.heap.size
 get: ∀(j:Nat) (x:Value),c[j]? =some x->W.cell? ⟨b,off+j,none⟩=some x
theorem Aj.below {W W':World} {b off:Nat} {c:List Value} {n:Nat} (h:Aj W b off c) (hn:W.heap.size<=n) (hb:Below n W W'):Aj W' b off c:=
 ⟨Nat.lt_of_lt_of_le h.lt hb.size,fun j x hx=>(hb.cell (p:=⟨b,off+j,none⟩) (Nat.lt_of_lt_of_le h.lt hn)).trans (h.get j x hx)⟩
theorem Aj.hp {W0 W:World} {bxs:List Bx} {b off:Nat} {c:List Value} (h:Aj W0 b off c) (hp:Hp W0 bxs W):Aj W b off c:=h.below (Nat.le_refl _) hp.below
theorem Aj.sub {W:World} {b off:Nat} {c:List Value} (h:Aj W b off c) (k:Nat):Aj W b (off+k) (c.drop k):=
 ⟨h.lt,fun j x hx=>by rw[List.getElem?_drop] at hx;rw[Nat.add_assoc];exact h.get _ _ hx⟩
theorem Aj.of_block {W:World} {b:Nat} {c:List Value} {ty:TypeId} {fr:Nat×Nat} (h:W.heap[b]? =some (.cells c.toArray ty fr)):Aj W b 0 c:=
 ⟨(Array.getElem?_eq_some_iff.1 h).1,fun j x hx=>by rw[Gq h,Nat.zero_add];exact hx⟩
theorem Aj.of_bx {W0 W:World} {bxs:List Bx} (hp:Hp W0 bxs W) (k:Nat) {B:Bx} (hk:nth bxs k=some B) (hon:B.row=true):Aj W B.b 0 B.cells:=by
 rw[Bv] at hk
 obtain⟨h1,h2⟩:=Bx.row_on hon
 have h3:=(hp.at_ _ _ hk h1).1
 rw[h2] at h3
 exact Aj.of_block h3
theorem Aj.load {P:Program} {T:Tbl} {i:TI} {t:TypeId} {W:World} {b off:Nat} {c:List Value} {v:Value} (o:Nat) (hT:okB P T=true) (ht:Cw T t=some i) (h:Aj W b off c) (hv:DZ c o i=some v):
  (loadVar t ⟨b,off+o,none⟩).run P W= .ok v W:=by
 have hr:=BA hT ht
 unfold DZ at hv
 simp only[loadVar,Sem.run_bind,Wd hr,Result.andThen_ok]
 split at hv
 ·rename_i ha
  split at hv
  ·rename_i hle
   cases hv
   have hle:o+i.size<=c.length:=Nat.le_of_ble_eq_true hle
   rw[ha]
   have:=EB (P:=P) (W:=W) (b:=b) (o:=off+o) (f:=fun j=>W.cell? ⟨b,off+o+j,none⟩) (fun _=>rfl) i.size 0 #[] ((c.drop o).take i.size) (by simp;omega) (fun j hj=>by
    rw[Nat.zero_add,List.getElem?_take,if_pos hj,List.getElem?_drop,Nat.add_assoc]
    have hlt:o+j<c.length:=by omega
    rw[List.getElem?_eq_getElem hlt]
    exact h.get _ _ (List.getElem?_eq_getElem hlt))
   simp only[if_true,Sem.run_bind,NX hr,Result.andThen_ok,loadCells,this,Sem.run_pure,List.append_toArray,List.nil_append]
  ·cases hv
 ·rename_i ha
  rw[ha]
  rw[Bv] at hv
  simp only[Bool.false_eq_true,if_false]
  simp[Go.load,Sem.run,h.get o v hv]
theorem AM {x:Int} (h1: -9223372036854775808<=x) (h2:x<9223372036854775808):IntKind.i64.wrap x=x:=by
 simp only[IntKind.wrap,IntKind.signed,IntKind.bits]
 simp
 omega
end Go.Am
namespace Go.Am
open Go Go.RowKit
def Jz (fl:List Bool) (o:Oper):Bool:=o.after.toList.all fun e=> !(Region.binds .any e)||fl.getD e.on false
def Qj (acc:List Bool):List Oper->List Bool
 |[]=>acc
 |o::l=>Qj (acc++[!f8 o&&Jz acc o]) l
def Hz (ops:List Oper):List Bool:=Qj [] ops
def RH:List Oper->List Bool->List Oper
 |o::l,b::fl=>match b with
  |true=>o::RH l fl
  |false=>RH l fl
 |_,_=>[]
def Qx (o:Oper):Bool:=match o.op with| .defer .. =>false| .select .. =>false|_=>true
def N6 (ops:List Oper) (fl:List Bool):Bool:=
 Nat.beq fl.length ops.length&&
 (ops.zipIdx.all fun(o,j)=>Xx o j&&Qx o&&(!(fl.getD j false)||Jz fl o))&&
 (ops.zipIdx.all fun(oj,j)=>ops.zipIdx.all fun(oi,i)=>Nat.ble j i|| !(DP ops oi oj)||MP (IL ops j (Jq oj)) i)
structure dE (ops:List Oper) (fl:List Bool):Prop where
 len:fl.length=ops.length
 low: ∀(j:Nat) (o:Oper),ops[j]? =some o->Xx o j=true
 sel: ∀(j:Nat) (o:Oper),ops[j]? =some o->Qx o=true
 down: ∀(j:Nat) (o:Oper),ops[j]? =some o->fl.getD j false=true-> ∀e∈o.after,Region.binds .any e=true->fl.getD e.on false=true
 haz: ∀(i j:Nat) (oi oj:Oper),ops[i]? =some oi->ops[j]? =some oj->i<j->DP ops oi oj=true->Reach ops oj i
theorem aR {ops:List Oper} {fl:List Bool} (hk:N6 ops fl=true):dE ops fl:=by
 simp only[N6,Bool.and_eq_true,List.all_eq_true] at hk
 obtain⟨⟨h0,h1⟩,h2⟩:=hk
 refine⟨Nat.eq_of_beq_eq_true h0,fun j o hj=>(h1 _ (BI hj)).1.1,fun j o hj=>(h1 _ (BI hj)).1.2,fun j o hj hf e he hb=> ?_,fun i j oi oj hi hj hij hz=> ?_⟩
 ·have:=(h1 _ (BI hj)).2
  simp only[Bool.or_eq_true] at this
  rcases this with h|h
  ·rw[hf] at h;cases h
  ·simp only[Jz,List.all_eq_true,Bool.or_eq_true] at h
   rcases h e (by simpa using he) with h|h
   ·rw[hb] at h;cases h
   ·exact h
 ·have:=h2 _ (BI hj) _ (BI hi)
  simp only[Bool.or_eq_true] at this
  rcases this with(h|h)|h
  ·have:=Nat.le_of_ble_eq_true h;omega
  ·rw[hz] at h;cases h
  ·exact D8 j _ (fun i hi=> .edge (FF hi)) i (by simpa[MP] using h)
section
variable {r:Option Nat} {n:Nat} {P:Program} {W0:World} {N:Nat} {D:List Deferred} {ops:List Oper} {Q:Exit->Act->World->Prop} {A Aq:World->Prop} {env:Env} {fl:List Bool}
def QK (D:List Deferred) (K:Act->World->Prop) (e:Exit) (a:Act) (W:World):Prop:=e= .normal/\a.defers=D/\K a W
def MC (ops:List Oper) (fl:List Bool) (L:Nat->Bool):Bool:=
 ops.zipIdx.any fun(o,i)=>L i&& !(fl.getD i false)&&(List.range ops.length).all fun j=> !(fl.getD j false)||MP (IL ops i (Jq o)) j
theorem Wu {ops:List Oper} {fl:List Bool} {L:Nat->Bool} (h:MC ops fl L=true): ∃(i:Nat) (o:Oper),ops[i]? =some o/\L i=true/\fl.getD i false=false/\ ∀j,j<ops.length->fl.getD j false=true->Reach ops o j:=by
 obtain⟨⟨o,i⟩,hm,h⟩:=List.any_eq_true.1 h
 simp only[Bool.and_eq_true,Bool.not_eq_true',List.all_eq_true,Bool.or_eq_true] at h
 obtain⟨⟨h1,h2⟩,h3⟩:=h
 obtain⟨_,h4⟩:=List.mem_zipIdx hm
 refine⟨i,o, ?_,h1,h2,fun j hj hf=> ?_⟩
 ·obtain⟨h5,h6⟩:=h4
  have h6':=h6
  simp only[Nat.sub_zero] at h6'
  rw[h6']
  exact List.getElem?_eq_getElem _
 ·rcases h3 j (List.mem_range.2 hj) with h|h
  ·rw[hf] at h;cases h
  ·exact D8 i _ (fun i hi=> .edge (FF hi)) j (by simpa[MP] using h)
def GN (r:Option Nat) (n:Nat) (P:Program) (D:List Deferred) (ops:List Oper) (fl:List Bool) (Q:Exit->Act->World->Prop) (Aq:World->Prop):Nat->(Nat->Bool)->Act->World->Prop
 |0,L,f,W=> ∀W',Below W.heap.size W W'->(MC ops fl L=false->Aq W')/\((∀j,j<ops.length->L j=true)->Q .normal f W')/\ ∀(j:Nat) (o:Oper),ops[j]? =some o->L j=false->False
 |d+1,L,f,W=> ∀W',Below W.heap.size W W'->(MC ops fl L=false->Aq W')/\((∀j,j<ops.length->L j=true)->Q .normal f W')/\
   ∀(j:Nat) (o:Oper),ops[j]? =some o->L j=false->(∀e∈o.after,Region.binds .any e=true->L e.on=true)->
    wpListIn (Fw r) n P ops.toArray (QK D (GN r n P D ops fl Q Aq d (fun i=>L i||Nat.beq i j))) [o] f W'
theorem GN.grow {d:Nat} {L:Nat->Bool} {f:Act} {W W':World} (h:GN r n P D ops fl Q Aq d L f W) (hb:Below W.heap.size W W'):GN r n P D ops fl Q Aq d L f W':=by
 cases d with
 |zero=>exact fun W'' hb'=>h W'' (hb.trans (hb'.mono hb.size))
 |succ d=>exact fun W'' hb'=>h W'' (hb.trans (hb'.mono hb.size))
theorem GN.here {d:Nat} {L:Nat->Bool} {f:Act} {W:World} (h:GN r n P D ops fl Q Aq d L f W):(MC ops fl L=false->Aq W)/\((∀j,j<ops.length->L j=true)->Q .normal f W):=by
 cases d with
 |zero=>exact⟨(h W (Below.refl _ _)).1,(h W (Below.refl _ _)).2.1⟩
 |succ d=>exact⟨(h W (Below.refl _ _)).1,(h W (Below.refl _ _)).2.1⟩
theorem GN.congr {d:Nat} {L L':Nat->Bool} {f:Act} {W:World} (h:GN r n P D ops fl Q Aq d L f W) (e: ∀i,L i=L' i):GN r n P D ops fl Q Aq d L' f W:=by
 have:L=L':=funext e
 subst this;exact h
theorem My {K:Act->World->Prop}: ¬LetsOut (QK D K):=fun⟨_,_,h,_⟩=>by cases h
theorem Xw {o:Oper} {f f':Act} {W:World} {K K':Act->World->Prop} (hfd:f.defers=D) (hnd:Qx o=true) (hr: ∀t∈Gl ops o,f'.tmps[t]? =f.tmps[t]?)
  (hK: ∀v W',K (f.put o.dst v) W'->K' (f'.put o.dst v) W') (h:wpListIn (Fw r) n P ops.toArray (QK D K) [o] f W):
  if Region.wanted o (yielded ops.toArray f'.tmps)=true then o.wpIn (Fw r) n P f' W K' Q else(∀g,o.about P W f'.eval=some g->(Fw r).fn g)/\K' (f'.put o.dst undef) W:=by
 have hd: ∀c,o.op≠ .defer c:=fun c e=>by simp[Qx,e] at hnd
 have hs: ∀cs b,o.op≠ .select cs b:=fun cs b e=>by simp[Qx,e] at hnd
 have h:if Region.wanted o (yielded ops.toArray f.tmps)=true then o.wpIn (Fw r) n P f W (fun a w=>QK D K .normal a w) (QK D K) else(∀g,o.about P W f.eval=some g->(Fw r).fn g)/\QK D K .normal (f.put o.dst undef) W:=h
 rw[K1 hr]
 split
 ·rename_i hw
  rw[if_pos hw] at h
  refine⟨fun _ _=>trivial, ?_⟩
  have h2:=h.2
  show o.uponIn (Fw r) n P f' K' Q ((o.semAt r f'.eval).run P W)
  rw[I5 _ hd,execOp_congr o hs (Ob hr)]
  have h2:o.uponIn (Fw r) n P f (fun a w=>QK D K .normal a w) (QK D K) ((o.semAt r f.eval).run P W):=h2
  rw[I5 _ hd] at h2
  cases hrun:(execOp f.eval o).run P W with
  |ok x W'=>
   rw[hrun] at h2
   cases x with
   |value v=>exact hK v W' h2.2.2
   |skip=>exact hK undef W' h2.2.2
   |defer d=>
    exfalso
    have:=h2.2.1
    rw[Og] at this
    have:=congrArg List.length this
    rw[hfd] at this
    simp at this
   |enter g args=>
    refine⟨h2.1,h2.2.mono ?_⟩
    intro e W'' he
    cases e with
    |returned v=>exact hK v W'' he.2.2
    |panicked c=>cases he.1
    |outgrown=>exact absurd he My
   |row row args=>exact⟨h2.1,h2.2.mono fun v W'' he=>hK v W'' he.2.2⟩
   |round l g tmps assign body=>
    refine⟨h2.1,RoundIn.mono h2.2 ?_⟩
    intro e W'' he
    cases e with
    |returned v=>exact hK v W'' he.2.2
    |panicked c=>cases he.1
    |outgrown=>exact absurd he My
   |_=>exact h2.elim
  |halt e W'=>
   rw[hrun] at h2
   cases e with
   |panic v=>cases h2.1
   |_=>exact h2.elim
 ·rename_i hw
  rw[if_neg hw] at h
  exact⟨fun _ _=>trivial,hK _ _ h.2.2.2⟩
theorem RN {dst:Nat->Option Nat} {v v':Nat->Value} {L L':Nat->Bool} {a:Act} {t:Nat}: ∀k,(∀i,i<k->dst i=some t->L i=L' i/\(L i=true->v i=v' i))->(BB dst v L a k).tmps[t]? =(BB dst v' L' a k).tmps[t]?
 |0,_=>rfl
 |k+1,h=>by
  have ih:=RN (a:=a) k (fun i hi=>h i (by omega))
  rw[Cv,Cv]
  by_cases hd:dst k=some t
  ·obtain⟨h1,h2⟩:=h k (by omega) hd
   rw[<-h1]
   split
   ·rename_i hL
    rw[h2 hL]
    exact KP _ _ _ _ _ (by rw[J5,J5]) ih
   ·exact ih
  ·have e1:(if L k=true then(BB dst v L a k).put (dst k) (v k) else BB dst v L a k).tmps[t]? =(BB dst v L a k).tmps[t]? :=by
    split
    ·exact H6 _ _ _ _ hd
    ·rfl
   have e2:(if L' k=true then(BB dst v' L' a k).put (dst k) (v' k) else BB dst v' L' a k).tmps[t]? =(BB dst v' L' a k).tmps[t]? :=by
    split
    ·exact H6 _ _ _ _ hd
    ·rfl
   rw[e1,e2,ih]
theorem Jh {dst:Nat->Option Nat} {v v':Nat->Value} {L L':Nat->Bool} {a:Act}: ∀k,(∀i,i<k->L i=L' i/\(L i=true->v i=v' i))->BB dst v L a k=BB dst v' L' a k
 |0,_=>rfl
 |k+1,h=>by
  have ih:=Jh (dst:=dst) (a:=a) k (fun i hi=>h i (by omega))
  obtain⟨h1,h2⟩:=h k (by omega)
  rw[Cv,Cv, <-h1,ih]
  split
  ·rename_i hL;rw[h2 hL]
  ·rfl
theorem MG {dst:Nat->Option Nat} {v:Nat->Value} {L:Nat->Bool} {a:Act}: ∀k,(BB dst v L a k).defers=a.defers
 |0=>rfl
 |k+1=>by unfold BB;split<;>simp[Og,MG k]
theorem YB {o:Oper} {a:Act} {W:World} {v:Value} {K:Act->World->Prop} (h:OpS A P ops o a W v) (hp:A W) (hK: ∀W',A W'->Below W.heap.size W W'->K (a.put o.dst v) W'):
  if Region.wanted o (yielded ops.toArray a.tmps)=true then o.wpIn (Fw r) n P a W K Q else(∀f,o.about P W a.eval=some f->(Fw r).fn f)/\K (a.put o.dst undef) W:=by
 unfold OpS at h
 split
 ·rename_i hw
  rw[if_pos hw] at h
  obtain⟨hnd,h⟩:=h
  refine⟨fun _ _=>trivial, ?_⟩
  show o.uponIn (Fw r) n P a K Q ((o.semAt r a.eval).run P W)
  rw[I5 _ hnd]
  rcases h with h|⟨g,args,h,hc⟩
  ·rw[h];exact hK W hp (Below.refl _ _)
  ·rw[h]
   refine⟨fun hx=>(by cases hx),Ed (hc.mono ?_)⟩
   rintro e W' ⟨rfl,h1,h2⟩
   exact hK W' h1 h2
 ·rename_i hw
  rw[if_neg hw] at h
  subst h
  exact⟨fun _ _=>trivial,hK W hp (Below.refl _ _)⟩
theorem Uc {fl:List Bool} (ho:dE ops fl) {j i:Nat} {o:Oper} (hj:ops[j]? =some o) (hf:fl.getD j false=true) (hr:Reach ops o i):fl.getD i false=true:=by
 have lift: ∀ {o:Oper} {i:Nat},(∀e∈o.after,Region.binds .any e=true->fl.getD e.on false=true)->edge o i=true->fl.getD i false=true:=by
  intro o i h he
  simp only[edge,List.any_eq_true,Bool.and_eq_true] at he
  obtain⟨e,hm,hb,hi⟩:=he
  have:e.on=i:=Nat.eq_of_beq_eq_true hi
  subst this
  exact h e (by simpa using hm) hb
 induction hr with
 |edge he=>exact lift (ho.down _ _ hj hf) he
 |step _ hk he ih=>exact lift (ho.down _ _ hk ih) he
theorem V6 {oi oj:Oper} {t:Nat} (hd:oi.dst=some t) (hr:t∈Gl ops oj):DP ops oi oj=true:=by simp[DP,hd,KW.2 hr]
theorem Vq {oi oj:Oper} {t:Nat} (hd:oj.dst=some t) (hr:t∈Gl ops oi):DP ops oi oj=true:=by simp[DP,hd,KW.2 hr]
theorem VQ {oi oj:Oper} {t:Nat} (hd:oi.dst=some t) (hr:oj.dst=some t):DP ops oi oj=true:=by simp[DP,hd,hr]
abbrev F2 (ops:List Oper) (i:Nat):Option Nat:=(ops[i]?).bind (·.dst)
theorem Hk {i t:Nat} (h:F2 ops i=some t): ∃o,ops[i]? =some o/\o.dst=some t:=by
 unfold F2 at h
 cases ho:ops[i]? with
 |none=>rw[ho] at h;cases h
 |some o=>rw[ho] at h;exact⟨o,rfl,h⟩
theorem Y6 (ho:dE ops fl) {v0:Nat->Value} {a0:Act} (hd0:a0.defers=D)
  (hv: ∀(j:Nat) (o:Oper),ops[j]? =some o->fl.getD j false=true-> ∀W,Aq W->OpS Aq P ops o (BB (F2 ops) v0 (fun i=>fl.getD i false) a0 j) W (v0 j)):
  ∀(k d:Nat) (listed:Array Bool) (v:Nat->Value) (W:World),Du listed.toList=k->listed.size=ops.length->(∀j,fl.getD j false=true->v j=v0 j)->
   (∀(j:Nat) (o:Oper),ops[j]? =some o->listed.getD j false=true-> ∀e∈o.after,Region.binds .any e=true->listed.getD e.on false=true)->
   GN r n P D ops fl Q Aq d (fun i=>fl.getD i false||listed.getD i false) (BB (F2 ops) v (fun i=>fl.getD i false||listed.getD i false) a0 ops.length) W->
   wpAnyIn (Fw r) n P .any ops.toArray Q k listed (BB (F2 ops) v (fun i=>listed.getD i false) a0 ops.length) W:=by
 intro k
 induction k with
 |zero=>
  intro d listed v W hu hs hvq hc hL
  have hall: ∀i,i<ops.length->listed.getD i false=true:=fun i hi=>by
   have hil:i<listed.size:=by omega
   have:=List.countP_eq_zero.1 hu (listed[i]) (by simp)
   simp only[Array.getD,hil,dite_true]
   simpa using this
  refine⟨?_, ?_⟩
  ·apply List.eq_nil_iff_forall_not_mem.2
   intro j hj
   obtain⟨o,h1,h2,_⟩:=(Ev hs).1 hj
   have h3:=hall j (List.getElem?_eq_some_iff.1 h1).1
   obtain⟨h4,h5⟩:=Array.getElem?_eq_some_iff.1 h2
   simp[Array.getD,h4,h5] at h3
  ·have:=hL.here.2 (fun j hj=>by simp only[hall j hj,Bool.or_true])
   rw[Jh (L':=fun i=>listed.getD i false) (v':=v) _ (fun i hi=>⟨by simp only[hall i hi,Bool.or_true],fun _=>rfl⟩)] at this
   exact this
 |succ k ih=>
  intro d listed v W hu hs hvq hc hL
  refine⟨fun hn=> ?_,fun j hj=> ?_⟩
  ·exfalso
   have hex: ∃i,i<ops.length/\listed.getD i false=false:=by
    apply Classical.byContradiction
    intro hne
    have:Du listed.toList=0:=List.countP_eq_zero.2 fun b hb=>by
     obtain⟨i,hi,he⟩:=List.getElem_of_mem hb
     have hi':i<listed.size:=by simpa using hi
     cases hx:listed.getD i false with
     |true=>
      simp only[Array.getD,hi',dite_true] at hx
      have hx:listed[i]=true:=hx
      rw[<-he];simp[hx]
     |false=>exact absurd ⟨i,by omega,hx⟩ hne
    omega
   obtain⟨i,hi⟩:=hex
   induction i using Nat.strongRecOn with
   |_ i ihi=>
    by_cases hk: ∀k,k<i->listed.getD k false=true
    ·have hil:i<listed.size:=by omega
     have hget:listed[i]? =some false:=by
      have:=hi.2
      simp only[Array.getD,hil,dite_true] at this
      rw[Array.getElem?_eq_getElem hil];exact congrArg some this
     have hio:ops[i]? =some ops[i]:=List.getElem?_eq_getElem hi.1
     have hir:i∈Region.ready .any ops.toArray listed:=(Ev hs).2 ⟨_,hio,hget,Ke (ho.low _ _ hio) hk⟩
     rw[hn] at hir;cases hir
    ·have: ∃k,k<i/\listed.getD k false=false:=by
      apply Classical.byContradiction
      intro hne
      apply hk
      intro k hki
      cases hb:listed.getD k false with
      |true=>rfl
      |false=>exact absurd ⟨k,hki,hb⟩ hne
     obtain⟨k,hki,hb⟩:=this
     exact ihi k hki ⟨by omega,hb⟩
  ·obtain⟨o,h1,h2,h3⟩:=(Ev hs).1 hj
   have hjl:=(List.getElem?_eq_some_iff.1 h1).1
   have hjs:j<listed.size:=by omega
   have hjf:listed.getD j false=false:=by
    obtain⟨h4,h5⟩:=Array.getElem?_eq_some_iff.1 h2
    simp[Array.getD,h4,h5]
   have hdj:F2 ops j=o.dst:=by simp[F2,h1]
   have hset: ∀i,(listed.setIfInBounds j true).getD i false=if i=j then true else listed.getD i false:=fun i=>by
    simp only[Array.getD_eq_getD_getElem?,Array.getElem?_setIfInBounds]
    by_cases e:j=i
    ·subst e;simp[hjs]
    ·rw[if_neg e,if_neg (fun x=>e x.symm)]
   have hu':Du (listed.setIfInBounds j true).toList=k:=by
    have:=Kx listed.toList j (by rw[Array.getElem?_toList];exact h2)
    have e:(listed.setIfInBounds j true).toList=listed.toList.set j true:=by simp
    rw[e];omega
   have hs':(listed.setIfInBounds j true).size=ops.length:=by simp[hs]
   have hc': ∀(i:Nat) (oi:Oper),ops[i]? =some oi->(listed.setIfInBounds j true).getD i false=true-> ∀e∈oi.after,Region.binds .any e=true->(listed.setIfInBounds j true).getD e.on false=true:=fun i oi hoi hLi e he hb=>by
    rw[hset] at hLi⊢
    split
    ·rfl
    ·by_cases e2:i=j
     ·subst e2
      rw[h1] at hoi;cases hoi
      exact h3 e he hb
     ·rw[if_neg e2] at hLi
      exact hc i oi hoi hLi e he hb
   -- what is listed does not need j
   have hno: ∀(i:Nat) (oi:Oper),ops[i]? =some oi->listed.getD i false=true->Reach ops oi j->False:=fun i oi hoi hLi hr=>by
    have:=HH hr (hc i oi hoi hLi) hc
    rw[hjf] at this;cases this
   have hin: ∀i,Reach ops o i->listed.getD i false=true:=fun i hr=>HH hr h3 hc
   have waw: ∀i,j<i->listed.getD i false=true-> ∀t,F2 ops j=some t->F2 ops i≠some t:=fun i hji hLi t ht hi=>by
    obtain⟨oi,hoi,hdi⟩:=Hk hi
    exact hno i oi hoi hLi (ho.haz j i o oi h1 hoi hji (VQ (by rw[<-hdj];exact ht) hdi))
   by_cases hq:fl.getD j false=true
   ·
    have hreads: ∀t∈Gl ops o,(BB (F2 ops) v (fun i=>listed.getD i false) a0 ops.length).tmps[t]? =(BB (F2 ops) v0 (fun i=>fl.getD i false) a0 j).tmps[t]? :=fun t ht=>by
     have e:ops.length=j+(ops.length-j):=by omega
     rw[e,LT (ops.length-j) (fun i hji him hLi hdi=> ?_)]
     ·refine RN j fun i hij hdi=> ?_
      obtain⟨oi,hoi,hdi⟩:=Hk hdi
      have hr:=ho.haz i j oi o hoi h1 hij (V6 hdi ht)
      have f1:=hin i hr
      have f2:=Uc ho h1 hq hr
      exact⟨by rw[f1,f2],fun _=>hvq i f2⟩
     ·rcases Nat.eq_or_lt_of_le hji with e|hlt
      ·subst e
       have hLi:listed.getD j false=true:=hLi
       rw[hjf] at hLi;cases hLi
      ·obtain⟨oi,hoi,hdi⟩:=Hk hdi
       exact hno i oi hoi hLi (ho.haz j i o oi h1 hoi hlt (Vq hdi ht))
    have hp:=hL.here.1 (by
     cases hb:MC ops fl (fun i=>fl.getD i false||listed.getD i false) with
     |false=>rfl
     |true=>
      obtain⟨i,oi,hoi,hLi,hfi,hall⟩:=Wu hb
      simp only[hfi,Bool.false_or] at hLi
      exact(hno i oi hoi hLi (hall j hjl hq)).elim)
    refine Ju h1 (YB (Q3 (fun cs b e=>by have:=ho.sel j o h1;simp[Qx,e] at this) hreads (hv j o h1 hq W hp)) hp fun W' hp' hb=> ?_)
    have hmix:BB (F2 ops) v (fun i=>(listed.setIfInBounds j true).getD i false) a0 ops.length=(BB (F2 ops) v (fun i=>listed.getD i false) a0 ops.length).put o.dst (v0 j):=by
     have e:ops.length=j+1+(ops.length-(j+1)):=by omega
     have:=KT (dst:=F2 ops) (v:=v) (L:=fun i=>listed.getD i false) (L':=fun i=>(listed.setIfInBounds j true).getD i false) (a:=a0) (j:=j)
      (fun i hne=>by simp only[hset,if_neg hne]) hjf (by simp[hset]) (ops.length-(j+1)) (fun i hji hih2 hLi t htd=>waw i hji hLi t htd)
     rw[<-e] at this
     rw[this,hdj,hvq j hq]
    rw[<-hmix]
    have hLf: ∀i,(fl.getD i false||listed.getD i false)=(fl.getD i false||(listed.setIfInBounds j true).getD i false):=fun i=>by
     rw[hset]
     split
     ·rename_i e;subst e;rw[hq];rfl
     ·rfl
    refine ih d _ v W' hu' hs' hvq hc' ?_
    have h5:=(hL.grow hb).congr hLf
    rw[Jh (L':=fun i=>fl.getD i false||(listed.setIfInBounds j true).getD i false) (v':=v) _ (fun i _=>⟨hLf i,fun _=>rfl⟩)] at h5
    exact h5
   ·
    have hq:fl.getD j false=false:=by simpa using hq
    have hnofl: ∀(i:Nat) (oi:Oper),ops[i]? =some oi->fl.getD i false=true->Reach ops oi j->False:=fun i oi hoi hfi hr=>by
     have:=Uc ho hoi hfi hr
     rw[hq] at this;cases this
    cases d with
    |zero=>exact((hL W (Below.refl _ _)).2.2 j o h1 (by simp only[hq,hjf,Bool.or_false])).elim
    |succ d=>
     have hstep:=(hL W (Below.refl _ _)).2.2 j o h1 (by simp only[hq,hjf,Bool.or_false]) (fun e he hb=>by simp only[h3 e he hb,Bool.or_true])
     have hreads: ∀t∈Gl ops o,(BB (F2 ops) v (fun i=>listed.getD i false) a0 ops.length).tmps[t]? =(BB (F2 ops) v (fun i=>fl.getD i false||listed.getD i false) a0 ops.length).tmps[t]? :=fun t ht=>by
      refine RN _ fun i hi hdi=>⟨?_,fun _=>rfl⟩
      obtain⟨oi,hoi,hdi⟩:=Hk hdi
      show listed.getD i false=(fl.getD i false||listed.getD i false)
      cases hf:fl.getD i false with
      |false=>simp
      |true=>
       rcases Nat.lt_trichotomy i j with hlt|rfl|hgt
       ·rw[hin i (ho.haz i j oi o hoi h1 hlt (V6 hdi ht))];simp
       ·rw[hq] at hf;cases hf
       ·exact(hnofl i oi hoi hf (ho.haz j i o oi h1 hoi hgt (Vq hdi ht))).elim
     refine Ju h1 (Xw (by rw[MG];exact hd0) (ho.sel j o h1) hreads (fun u W' h5=> ?_) hstep)
     have hvn: ∀(L:Nat->Bool),L j=false->BB (F2 ops) (fun i=>if i=j then u else v i) L a0 ops.length=BB (F2 ops) v L a0 ops.length:=fun L hLj=>
      Jh _ fun i _=>⟨rfl,fun hLi=>by
       by_cases e:i=j
       ·subst e;rw[hLj] at hLi;cases hLi
       ·simp only[if_neg e]⟩
     have e:ops.length=j+1+(ops.length-(j+1)):=by omega
     have hmix:BB (F2 ops) (fun i=>if i=j then u else v i) (fun i=>(listed.setIfInBounds j true).getD i false) a0 ops.length=(BB (F2 ops) v (fun i=>listed.getD i false) a0 ops.length).put o.dst u:=by
      have:=KT (dst:=F2 ops) (v:=fun i=>if i=j then u else v i) (L:=fun i=>listed.getD i false) (L':=fun i=>(listed.setIfInBounds j true).getD i false) (a:=a0) (j:=j)
       (fun i hne=>by simp only[hset,if_neg hne]) hjf (by simp[hset]) (ops.length-(j+1)) (fun i hji hih2 hLi t htd=>waw i hji hLi t htd)
      rw[<-e] at this
      rw[this,hdj,hvn _ hjf];simp
     have hmix2:BB (F2 ops) (fun i=>if i=j then u else v i) (fun i=>fl.getD i false||(listed.setIfInBounds j true).getD i false) a0 ops.length=(BB (F2 ops) v (fun i=>fl.getD i false||listed.getD i false) a0 ops.length).put o.dst u:=by
      have:=KT (dst:=F2 ops) (v:=fun i=>if i=j then u else v i) (L:=fun i=>fl.getD i false||listed.getD i false) (L':=fun i=>fl.getD i false||(listed.setIfInBounds j true).getD i false) (a:=a0) (j:=j)
       (fun i hne=>by simp only[hset,if_neg hne]) (by simp only[hq,hjf,Bool.or_false]) (by simp[hset]) (ops.length-(j+1)) (fun i hji hih2 hLi t htd hdi=>by
        simp only[Bool.or_eq_true] at hLi
        rcases hLi with hf|hl
        ·obtain⟨oi,hoi,hdi⟩:=Hk hdi
         exact hnofl i oi hoi hf (ho.haz j i o oi h1 hoi hji (VQ (by rw[<-hdj];exact htd) hdi))
        ·exact waw i hji hl t htd hdi)
      rw[<-e] at this
      rw[this,hdj,hvn _ (by simp only[hq,hjf,Bool.or_false])];simp
     rw[<-hmix]
     refine ih d _ _ W' hu' hs' (fun i hfi=> ?_) hc' ?_
     ·by_cases e:i=j
      ·subst e;rw[hq] at hfi;cases hfi
      ·simp only[if_neg e];exact hvq i hfi
     ·rw[hmix2]
      refine h5.congr fun i=> ?_
      rw[hset]
      by_cases e:i=j
      ·subst e;simp
      ·rw[if_neg e];simp[e]
end
end Go.Am
namespace Go.Am
open Go Go.RowKit
def AK:List Bx->List Bx->Prop
 |[],_=>True
 |q::qs,b::bs=>(q.on=false\/q=b)/\AK qs bs
 |_::_,[]=>False
theorem AK.get: ∀ {q b:List Bx},AK q b-> ∀(i:Nat) (B:Bx),q[i]? =some B->B.blk≠[]->b[i]? =some B
 |[],_,_,i,B,h,_=>by simp at h
 |x::q,y::b,⟨h1,h2⟩,i,B,h,ho=>by
  cases i with
  |zero=>
   simp at h⊢
   subst h
   rcases h1 with h1|h1
   ·exact absurd (by simp[Bx.blk,h1]) ho
   ·exact h1.symm
  |succ i=>simp at h⊢;exact h2.get i B h ho
 |_::_,[],h,_,_,_,_=>h.elim
theorem Hp.weak {W0 W:World} {q b:List Bx} (h:Hp W0 b W) (hw:AK q b):Hp W0 q W:=
 ⟨h.below,h.own.sub (fun k=>k) (fun k B hk hb=>hw.get k B hk hb) (fun _ _ _ _ _ _ h=>h)⟩
theorem AK.off {x y:Bx} {q b:List Bx} (hx:x.on=false) (h:AK q b):AK (x::q) (y::b):=⟨.inl hx,h⟩
theorem AK.same {x:Bx} {q b:List Bx} (h:AK q b):AK (x::q) (x::b):=⟨.inr rfl,h⟩
def pick (b:List Bx):List Nat->Option (List Bx)
 |[]=>some []
 |i::s=>match nth b i with
  |some B=>match pick b s with
   |some l=>some (B::l)
   |none=>none
  |none=>none
theorem KH {b:List Bx}: ∀ {s:List Nat} {l:List Bx},pick b s=some l-> ∀(i:Nat) (B:Bx),l[i]? =some B-> ∃k,s[i]? =some k/\b[k]? =some B
 |[],l,h,i,B,hB=>by cases h;simp at hB
 |k::s,l,h,i,B,hB=>by
  unfold pick at h
  split at h
  ·rename_i C hC
   split at h
   ·rename_i l' hl
    cases h
    cases i with
    |zero=>simp at hB;subst hB;exact⟨k,by simp,by rw[<-Bv];exact hC⟩
    |succ i=>simp at hB;obtain⟨k',h1,h2⟩:=KH hl i B hB;exact⟨k',by simpa using h1,h2⟩
   ·cases h
  ·cases h
theorem Hp.pick {W0 W:World} {b l:List Bx} (s:List Nat) (h:Hp W0 b W) (hs:s.Nodup) (hp:Am.pick b s=some l):Hp W0 l W:=by
 refine⟨h.below,h.own.sub (fun i=>(s[i]?).getD 0) (fun k B hk _=> ?_) (fun i j B C hi hj e=> ?_)⟩
 ·obtain⟨m,h1,h2⟩:=KH hp k B hk
  simp[h1,h2]
 ·obtain⟨m,h1,_⟩:=KH hp i B hi
  obtain⟨m',h1',_⟩:=KH hp j C hj
  simp[h1,h1'] at e
  subst e
  exact(List.getElem?_inj (List.getElem?_eq_some_iff.1 h1).1 hs).1 (h1.trans h1'.symm)
section
variable {r:Option Nat} {n:Nat} {P:Program} {W0:World} {N:Nat} {D:List Deferred} {ops:List Oper} {Q:Exit->Act->World->Prop} {A A2 Aq:World->Prop} {R:Act->World->Prop} {env:Env} {bxs bxq:List Bx} {d:Nat} {L:List Bool} {fl:List Bool}
theorem Sf: ∀(l:List Oper) (fl:List Bool) (f:Act->Act),fl.length=l.length->WQf P N D ops A A2 R (RH l fl) f->
  ∃v:Nat->Value,(∀(j:Nat) (o:Oper),l[j]? =some o->fl.getD j false=true-> ∀(a:Act) (W:World),a.tmps.size=N->a.defers=D->A W->OpS A P ops o (BB (fun i=>(l[i]?).bind (·.dst)) v (fun i=>fl.getD i false) (f a) j) W (v j))/\
   ∀(a:Act) (W:World),a.tmps.size=N->a.defers=D->A2 W->R (BB (fun i=>(l[i]?).bind (·.dst)) v (fun i=>fl.getD i false) (f a) l.length) W
 |[],[],f,_,h=>⟨fun _=>undef,fun j o hj=>by simp at hj,h⟩
 |[],_::_,f,hl,h=>by simp at hl
 |_::_,[],f,hl,h=>by simp at hl
 |o::l,b::fl,f,hl,h=>by
  have hl2:fl.length=l.length:=by simpa using hl
  cases b with
  |false=>
   obtain⟨v,h3,h4⟩:=Sf l fl f hl2 h
   have shift: ∀(a:Act) (k:Nat),BB (fun i=>((o::l)[i]?).bind (·.dst)) (fun i=>match i with|0=>undef|i+1=>v i) (fun i=>(false::fl).getD i false) (f a) (k+1)=BB (fun i=>(l[i]?).bind (·.dst)) v (fun i=>fl.getD i false) (f a) k:=by
    intro a k
    induction k with
    |zero=>simp[BB]
    |succ k ih=>rw[Cv,ih,Cv];simp
   refine⟨fun i=>match i with|0=>undef|i+1=>v i,fun j oj hj hf a W e1 e2 e3=> ?_,fun a W e1 e2 e3=> ?_⟩
   ·cases j with
    |zero=>simp at hf
    |succ j=>rw[shift];exact h3 j oj (by simpa using hj) (by simpa using hf) a W e1 e2 e3
   ·rw[List.length_cons,shift];exact h4 a W e1 e2 e3
  |true=>
   obtain⟨v0,h1,h2⟩:WQf P N D ops A A2 R (o::RH l fl) f:=h
   obtain⟨v,h3,h4⟩:=Sf l fl _ hl2 h2
   have shift: ∀(a:Act) (k:Nat),BB (fun i=>((o::l)[i]?).bind (·.dst)) (fun i=>match i with|0=>v0|i+1=>v i) (fun i=>(true::fl).getD i false) (f a) (k+1)=BB (fun i=>(l[i]?).bind (·.dst)) v (fun i=>fl.getD i false) ((f a).put o.dst v0) k:=by
    intro a k
    induction k with
    |zero=>simp[BB]
    |succ k ih=>rw[Cv,ih,Cv];simp
   refine⟨fun i=>match i with|0=>v0|i+1=>v i,fun j oj hj hf a W e1 e2 e3=> ?_,fun a W e1 e2 e3=> ?_⟩
   ·cases j with
    |zero=>simp at hj;subst hj;exact h1 a W e1 e2 e3
    |succ j=>rw[shift];exact h3 j oj (by simpa using hj) (by simpa using hf) a W e1 e2 e3
   ·rw[List.length_cons,shift];exact h4 a W e1 e2 e3
structure WT (r:Option Nat) (n:Nat) (P:Program) (N:Nat) (D:List Deferred) (ops:List Oper) (fl:List Bool) (Q:Exit->Act->World->Prop) (Aq:World->Prop) (d:Nat) (L:List Bool) (env:Env) (A:World->Prop):Prop where
 out: ∀(a:Act) (W:World),a.tmps.size=N->a.defers=D->A W->GN r n P D ops fl Q Aq d (fun i=>L.getD i false) (ov env a) W
def Iz (ops:List Oper) (L:List Bool):List (Oper×Nat):=ops.zipIdx.filter fun(o,j)=> !(L.getD j false)&&Jz L o
inductive RS (r:Option Nat) (n:Nat) (P:Program) (N:Nat) (D:List Deferred) (ops:List Oper) (fl:List Bool) (Q:Exit->Act->World->Prop) (Aq:World->Prop) (d:Nat) (L:List Bool) (env:Env) (A:World->Prop):List (Oper×Nat)->Prop
 |nil:RS r n P N D ops fl Q Aq d L env A []
 |cons {o:Oper} {j:Nat} {l:List (Oper×Nat)} (h:WL r n P N D ops (QK D (GN r n P D ops fl Q Aq d (fun i=>(L.set j true).getD i false))) [o] env A) (t:RS r n P N D ops fl Q Aq d L env A l):RS r n P N D ops fl Q Aq d L env A ((o,j)::l)
theorem RS.get {l:List (Oper×Nat)} (h:RS r n P N D ops fl Q Aq d L env A l): ∀p∈l,WL r n P N D ops (QK D (GN r n P D ops fl Q Aq d (fun i=>(L.set p.2 true).getD i false))) [p.1] env A:=by
 induction h with
 |nil=>intro p hp;cases hp
 |cons h _ ih=>
  intro p hp
  rcases List.mem_cons.1 hp with rfl|hp
  ·exact h
  ·exact ih p hp
def Tt (m:Nat) (L:List Bool):Bool:=(List.range m).all fun j=>L.getD j false
theorem Ah (h:WT r n P N D ops fl Q Aq d L env A):NE N D (QK D (GN r n P D ops fl Q Aq d (fun i=>L.getD i false))) .normal env A:= .mk fun a W ha hd hp=>
 ⟨rfl,by rw[B7];exact hd,h.out a W ha hd hp⟩
theorem BR (h:WT r n P N D ops fl Q Aq d L env A2):WQ P N D ops A2 (fun f W=>GN r n P D ops fl Q Aq d (fun i=>L.getD i false) f W) [] env A:=⟨fun a W h1 h2 h3=>h.out a W h1 h2 h3⟩
theorem AF (hall:Tt ops.length L=true) (hw:AK bxq bxs) (h:NE N D Q .normal env (Hp W0 bxs)):WT r n P N D ops fl Q (Hp W0 bxq) 0 L env (Hp W0 bxs):= .mk fun a W ha hd hp W' hb=>by
 have hp':=hp.grow hb
 refine⟨fun _=>hp'.weak hw,fun _=>h.out a W' ha hd hp',fun j o hj hL=> ?_⟩
 have:=List.all_eq_true.1 hall j (List.mem_range.2 (List.getElem?_eq_some_iff.1 hj).1)
 have this:L.getD j false=true:=this
 have hL:L.getD j false=false:=hL
 rw[hL] at this;cases this
theorem AR (hall:Tt ops.length L=true) (hw:MC ops fl (fun i=>L.getD i false)=true) (h:NE N D Q .normal env (Hp W0 bxs)):WT r n P N D ops fl Q Aq 0 L env (Hp W0 bxs):= .mk fun a W ha hd hp W' hb=>by
 have hp':=hp.grow hb
 refine⟨fun h=>(by rw[hw] at h;cases h),fun _=>h.out a W' ha hd hp',fun j o hj hL=> ?_⟩
 have:=List.all_eq_true.1 hall j (List.mem_range.2 (List.getElem?_eq_some_iff.1 hj).1)
 have this:L.getD j false=true:=this
 have hL:L.getD j false=false:=hL
 rw[hL] at this;cases this
theorem Z4 (hall:Tt ops.length L=false) (hlen:Nat.beq L.length ops.length=true) (hw:AK bxq bxs) (h:RS r n P N D ops fl Q (Hp W0 bxq) d L env (Hp W0 bxs) (Iz ops L)):WT r n P N D ops fl Q (Hp W0 bxq) (d+1) L env (Hp W0 bxs):= .mk fun a W ha hd hp W' hb=>by
 have hp':=hp.grow hb
 refine⟨fun _=>hp'.weak hw,fun hx=> ?_,fun j o hj hL hdep=> ?_⟩
 ·have:Tt ops.length L=true:=List.all_eq_true.2 fun j hj=>hx j (List.mem_range.1 hj)
  rw[hall] at this;cases this
 ·have hm:(o,j)∈Iz ops L:=by
   simp only[Iz,List.mem_filter]
   refine⟨BI hj, ?_⟩
   simp only[hL,Bool.not_false,Bool.true_and,Jz,List.all_eq_true,Bool.or_eq_true]
   intro e he
   cases hb:Region.binds .any e with
   |false=>left;rfl
   |true=>right;exact hdep e (by simpa using he) hb
  have h1:=(h.get _ hm).out a W' ha hd hp'
  have e:(fun i=>(L.set j true).getD i false)=fun i=>L.getD i false||Nat.beq i j:=funext fun i=>by
   have hlen:L.length=ops.length:=Nat.eq_of_beq_eq_true hlen
   have hjl:=(List.getElem?_eq_some_iff.1 hj).1
   by_cases e:i=j
   ·subst e;simp[List.getD,show i<L.length by omega]
   ·have:Nat.beq i j=false:=by
     cases hb:Nat.beq i j with
     |false=>rfl
     |true=>exact absurd (Nat.eq_of_beq_eq_true hb) e
    rw[this]
    simp[List.getD,show¬j=i from fun x=>e x.symm]
  simp only[e] at h1
  exact h1
theorem Yv (hall:Tt ops.length L=false) (hlen:Nat.beq L.length ops.length=true) (hw:MC ops fl (fun i=>L.getD i false)=true) (h:RS r n P N D ops fl Q Aq d L env (Hp W0 bxs) (Iz ops L)):WT r n P N D ops fl Q Aq (d+1) L env (Hp W0 bxs):= .mk fun a W ha hd hp W' hb=>by
 have hp':=hp.grow hb
 refine⟨fun h=>(by rw[hw] at h;cases h),fun hx=> ?_,fun j o hj hL hdep=> ?_⟩
 ·have:Tt ops.length L=true:=List.all_eq_true.2 fun j hj=>hx j (List.mem_range.1 hj)
  rw[hall] at this;cases this
 ·have hm:(o,j)∈Iz ops L:=by
   simp only[Iz,List.mem_filter]
   refine⟨BI hj, ?_⟩
   simp only[hL,Bool.not_false,Bool.true_and,Jz,List.all_eq_true,Bool.or_eq_true]
   intro e he
   cases hb:Region.binds .any e with
   |false=>left;rfl
   |true=>right;exact hdep e (by simpa using he) hb
  have h1:=(h.get _ hm).out a W' ha hd hp'
  have e:(fun i=>(L.set j true).getD i false)=fun i=>L.getD i false||Nat.beq i j:=funext fun i=>by
   have hlen:L.length=ops.length:=Nat.eq_of_beq_eq_true hlen
   have hjl:=(List.getElem?_eq_some_iff.1 hj).1
   by_cases e:i=j
   ·subst e;simp[List.getD,show i<L.length by omega]
   ·have:Nat.beq i j=false:=by
     cases hb:Nat.beq i j with
     |false=>rfl
     |true=>exact absurd (Nat.eq_of_beq_eq_true hb) e
    rw[this]
    simp[List.getD,show¬j=i from fun x=>e x.symm]
  simp only[e] at h1
  exact h1
theorem TB (fl:List Bool) (d:Nat) (bxq:List Bx) {id:Nat} (hm:P.follows .mixedOrders=true) (hok:N6 ops fl=true)
  (hq:WQ P N D ops (Hp W0 bxs) (fun f W=>GN r n P D ops fl Q (Hp W0 bxq) d (fun i=>fl.getD i false) f W) (RH ops fl) env (Hp W0 bxq)):WC r n P N D (.region id ops.toArray true) Q env (Hp W0 bxs):= .mk fun a W ha hd hp=>by
 have ho:=aR hok
 obtain⟨v,hv,hend⟩:=Sf ops fl _ ho.len hq.out
 refine wpIn_region_any hm ?_
 have hp':=Vp W hp
 have hL:=hend a _ ha hd hp'
 have key:=Y6 (r:=r) (n:=n) (D:=D) (Q:=Q) ho (v0:=v) (a0:=ov env a) (by rw[B7];exact hd) (fun j o hj hf W' hpW=>hv j o hj hf a W' ha hd hpW)
  ops.length d (Array.replicate ops.length false) v { W with drawn:=W.drawn+1 } (by simp[Du,List.countP_replicate]) (by simp) (fun _ _=>rfl)
  (fun j o _ hl=>by simp[Array.getD_eq_getD_getElem?,Array.getElem?_replicate] at hl;split at hl<;>cases hl) ?_
 ·have hmix:BB (F2 ops) v (fun i=>(Array.replicate ops.length false).getD i false) (ov env a) ops.length=ov env a:=by
   have: ∀k,BB (F2 ops) v (fun i=>(Array.replicate ops.length false).getD i false) (ov env a) k=ov env a:=by
    intro k
    induction k with
    |zero=>rfl
    |succ k ih=>
     rw[Cv,if_neg,ih]
     simp[Array.getD_eq_getD_getElem?,Array.getElem?_replicate]
     split<;>simp
   exact this _
  rw[hmix] at key
  simpa using key
 ·have hf: ∀i,fl.getD i false=(fl.getD i false||(Array.replicate ops.length false).getD i false):=fun i=>by
   have:(Array.replicate ops.length false).getD i false=false:=by
    simp[Array.getD_eq_getD_getElem?,Array.getElem?_replicate]
    split<;>rfl
   rw[this,Bool.or_false]
  have:=hL.congr hf
  rw[Jh (L':=fun i=>fl.getD i false||(Array.replicate ops.length false).getD i false) (v':=v) _ (fun i _=>⟨hf i,fun _=>rfl⟩)] at this
  exact this
theorem bJ (d:Nat) (bxq:List Bx) {id:Nat} (hm:P.follows .mixedOrders=true) (hok:N6 ops (Hz ops)=true)
  (hq:WQ P N D ops (Hp W0 bxs) (fun f W=>GN r n P D ops (Hz ops) Q (Hp W0 bxq) d (fun i=>(Hz ops).getD i false) f W) (RH ops (Hz ops)) env (Hp W0 bxq)):WC r n P N D (.region id ops.toArray true) Q env (Hp W0 bxs):=TB (Hz ops) d bxq hm hok hq
structure QX {X:Type} (N:Nat) (D:List Deferred) (W0:World) (envF:X->Env) (bF:X->List Bx) (e:Exit) (a:Act) (W:World):Prop where
 out:e= .normal/\ ∃x,UU N D (envF x) a/\Hp W0 (bF x) W
theorem Lz {X:Type} (envF:X->Env) (bF:X->List Bx) (d:Nat) (bxq:List Bx) {id:Nat} (hm:P.follows .mixedOrders=true) (hok:N6 ops (Hz ops)=true)
  (hq:WQ P N D ops (Hp W0 bxs) (fun f W=>GN r n P D ops (Hz ops) (QX N D W0 envF bF) (Hp W0 bxq) d (fun i=>(Hz ops).getD i false) f W) (RH ops (Hz ops)) env (Hp W0 bxq))
  (hfin: ∀x,NE N D Q .normal (envF x) (Hp W0 (bF x))):WC r n P N D (.region id ops.toArray true) Q env (Hp W0 bxs):= .mk fun a W ha hd hp=>by
 have h:=(bJ (id:=id) (Q:=QX N D W0 envF bF) d bxq hm hok hq).out a W ha hd hp
 refine wpIn_mono h ?_
 rintro e a' W' ⟨rfl,x,hl,hp'⟩
 have:=(hfin x).out a' W' hl.size hl.defers hp'
 rw[FG (fun p hp _=>hl.get p hp)] at this
 exact this
theorem AV {X:Type} (fl:List Bool) (envF:X->Env) (bF:X->List Bx) (d:Nat) (bxq:List Bx) {id:Nat} (hm:P.follows .mixedOrders=true) (hok:N6 ops fl=true)
  (hq:WQ P N D ops (Hp W0 bxs) (fun f W=>GN r n P D ops fl (QX N D W0 envF bF) (Hp W0 bxq) d (fun i=>fl.getD i false) f W) (RH ops fl) env (Hp W0 bxq))
  (hfin: ∀x,NE N D Q .normal (envF x) (Hp W0 (bF x))):WC r n P N D (.region id ops.toArray true) Q env (Hp W0 bxs):= .mk fun a W ha hd hp=>by
 have h:=(TB (id:=id) (Q:=QX N D W0 envF bF) fl d bxq hm hok hq).out a W ha hd hp
 refine wpIn_mono h ?_
 rintro e a' W' ⟨rfl,x,hl,hp'⟩
 have:=(hfin x).out a' W' hl.size hl.defers hp'
 rw[FG (fun p hp _=>hl.get p hp)] at this
 exact this
theorem A7 {X:Type} {envF:X->Env} {bF:X->List Bx} (x:X) (hL:Ic N env (envF x)) (s:List Nat) (hs:s.Nodup) (hp:pick bxs s=some (bF x)):NE N D (QX N D W0 envF bF) .normal env (Hp W0 bxs):= .mk fun _ _ ha hd hh=>
 ⟨rfl,x,HJ ha hd hL,hh.pick s hs hp⟩
theorem NI {X:Type} (envF:X->Env) (bF:X->List Bx) (d:Nat) {id:Nat} (hm:P.follows .mixedOrders=true) (hok:N6 ops (Hz ops)=true)
  (hq:WQ P N D ops (Hp W0 bxs) (fun f W=>GN r n P D ops (Hz ops) (QX N D W0 envF bF) (Hp W0 bxs) d (fun i=>(Hz ops).getD i false) f W) (RH ops (Hz ops)) env (Hp W0 bxs))
  (hfin: ∀x,NE N D Q .normal (envF x) (Hp W0 (bF x))):WC r n P N D (.region id ops.toArray true) Q env (Hp W0 bxs):=Lz envF bF d bxs hm hok hq hfin
end
end Go.Am
namespace Go.Am
abbrev zA:= @Ba
abbrev zB:= @Et
abbrev zC:= @Kj
abbrev zD:= @UQ
abbrev zE:= @KD
abbrev zF:= @Ah
abbrev zG:= @BR
abbrev zH:= @ID
abbrev zI:= @ZR
abbrev zJ:= @Z5
abbrev zK:= @RE
abbrev zL:= @PT
abbrev zM:= @J9
abbrev zN:= @MW
abbrev zO:= @dD
abbrev zP:= @To
abbrev zQ:= @Rw
abbrev zR:= @Lq
abbrev zS:= @JS
abbrev zT:= @TZ
end Go.Am
