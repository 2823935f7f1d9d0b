/- atDoorPShelf. -/
import Derived.Shelf.Strings.Trim
import Derived.Shelf.Small.Utf8
import Derived.Shelf.Small.Bits
import Derived.Shelf.Small.Strs
import Derived.Shelf.Small.Wraps
import Derived.Shelf.Strconv.Atoi
import Derived.Shelf.Strconv.Itoa0
import Derived.Shelf.Strconv.Itoa1
import Derived.Shelf.LaysM
import Derived.Shelf.Strconv.Itoa2
import Derived.Shelf.Strconv.Itoa3
import Derived.Shelf.Strconv.AtoiErrFast
import Derived.Shelf.Strconv.ParseIntEmpty
import Derived.Shelf.Strconv.AtoiFail
import Derived.Shelf.Strconv.Clone
import Derived.Shelf.Strconv.SyntaxError
import Derived.Shelf.LaysC
import Derived.Shelf.Strconv.ToError
import Derived.Shelf.Strconv.Lower
import Derived.Shelf.Strconv.ParseUint10
import Derived.Shelf.Strconv.ParseUint10Empty
import Derived.Shelf.Strconv.ParseUint10Any
import Derived.Shelf.Strconv.ParseInt10
import Derived.Shelf.Strconv.AtoiLong
import Derived.Shelf.Strconv.AtoiInnerAll
import Derived.Shelf.Strconv.RangeError
import Derived.Shelf.Strconv.ToErrorRange
import Derived.Shelf.Strconv.AtoiAll
import Derived.Shelf.Strconv.ErrVarAll
import Derived.Shelf.Strings.Search1
import Derived.Shelf.Strings.Search2
import Derived.Shelf.Strings.Search3
import Derived.Shelf.Strings.Cut
import Derived.Shelf.Strings.Count
import Derived.Shelf.Strings.Shaped
import Derived.Shelf.Strings.Prefix
import Derived.Shelf.Strings.Split
import Derived.Shelf.Strings.SplitShaped
import Derived.Shelf.Unicode.Decode
import Derived.Shelf.Strings.Runes
import Derived.Shelf.Strings.RuneCount
import Derived.Shelf.Strings.AsciiSet
import Derived.Shelf.Strings.Explode
import Derived.Shelf.Bits.Mul64
import Derived.Shelf.Unicode.DecodeSlow
import Derived.Test.YtoolgdcjfkjlnaaGreatDoorProg
namespace Go.Proofs
open Go.Shelf
def Tryz.lays161_ren :Go.Shelf.Ren:=⟨fun|161=>267|231=>240|227=>242|233=>243|235=>245|228=>301|197=>302|151=>303|260=>341|152=>342|137=>364|119=>365|224=>350|225=>349|217=>348|266=>367|n=>n,fun|9=>9|4=>4|3=>3|5=>5|117=>357|116=>356|0=>0|124=>360|105=>397|21=>21|119=>444|46=>197|139=>447|138=>446|n=>n,fun|3=>4|4=>5|n=>n⟩
theorem Tryz.lays161 :Go.Proofs.Lays.n161 Tryz.prog Tryz.lays161_ren:={
  mixed:=by kernel_rfl
  f119:=Tryz.func365.trans (congrArg some (by kernel_rfl))
  f137:=Tryz.func364.trans (congrArg some (by kernel_rfl))
  f151:=Tryz.func303.trans (congrArg some (by kernel_rfl))
  f152:=Tryz.func342.trans (congrArg some (by kernel_rfl))
  f161:=Tryz.func267.trans (congrArg some (by kernel_rfl))
  f197:=Tryz.func302.trans (congrArg some (by kernel_rfl))
  f217:=Tryz.func348.trans (congrArg some (by kernel_rfl))
  f224:=Tryz.func350.trans (congrArg some (by kernel_rfl))
  f225:=Tryz.func349.trans (congrArg some (by kernel_rfl))
  f227:=Tryz.func242.trans (congrArg some (by kernel_rfl))
  f228:=Tryz.func301.trans (congrArg some (by kernel_rfl))
  f231:=Tryz.func240.trans (congrArg some (by kernel_rfl))
  f233:=Tryz.func243.trans (congrArg some (by kernel_rfl))
  f235:=Tryz.func245.trans (congrArg some (by kernel_rfl))
  f260:=Tryz.func341.trans (congrArg some (by kernel_rfl))
  f266:=Tryz.func367.trans (congrArg some (by kernel_rfl))
  t0:=Tryz.underlying0
  a0:=Tryz.isAgg0
  z0:=Tryz.sizeOf0
  v0:=Tryz.zeroValue0
  t3:=Tryz.underlying3
  a3:=Tryz.isAgg3
  z3:=Tryz.sizeOf3
  v3:=Tryz.zeroValue3
  t4:=Tryz.underlying4
  a4:=Tryz.isAgg4
  z4:=Tryz.sizeOf4
  v4:=Tryz.zeroValue4
  t5:=Tryz.underlying5
  a5:=Tryz.isAgg5
  z5:=Tryz.sizeOf5
  v5:=Tryz.zeroValue5
  t9:=Tryz.underlying9
  a9:=Tryz.isAgg9
  z9:=Tryz.sizeOf9
  v9:=Tryz.zeroValue9
  t21:=Tryz.underlying21
  a21:=Tryz.isAgg21
  z21:=Tryz.sizeOf21
  v21:=Tryz.zeroValue21
  t46:=Tryz.underlying197
  a46:=Tryz.isAgg197
  z46:=Tryz.sizeOf197
  v46:=Tryz.zeroValue197
  t105:=Tryz.underlying397
  a105:=Tryz.isAgg397
  z105:=Tryz.sizeOf397
  v105:=Tryz.zeroValue397
  t116:=Tryz.underlying356
  a116:=Tryz.isAgg356
  z116:=Tryz.sizeOf356
  t117:=Tryz.underlying357
  a117:=Tryz.isAgg357
  z117:=Tryz.sizeOf357
  v117:=Tryz.zeroValue357
  t119:=Tryz.underlying444
  a119:=Tryz.isAgg444
  z119:=Tryz.sizeOf444
  t124:=Tryz.underlying360
  a124:=Tryz.isAgg360
  z124:=Tryz.sizeOf360
  v124:=Tryz.zeroValue360
  t138:=Tryz.underlying446
  a138:=Tryz.isAgg446
  z138:=Tryz.sizeOf446
  v138:=Tryz.zeroValue446
  t139:=Tryz.underlying447
  a139:=Tryz.isAgg447
  z139:=Tryz.sizeOf447
  v139:=Tryz.zeroValue447
  g3:=by kernel_rfl
  g4:=by kernel_rfl}
def Tryz.lays160_ren :Go.Shelf.Ren:=⟨fun|160=>195|232=>241|231=>240|227=>242|234=>244|233=>243|236=>246|235=>245|228=>301|271=>304|151=>303|197=>302|120=>343|152=>342|260=>341|137=>364|119=>365|224=>350|225=>349|217=>348|266=>367|n=>n,fun|9=>9|4=>4|3=>3|5=>5|117=>357|116=>356|0=>0|124=>360|21=>21|105=>397|46=>197|119=>444|139=>447|138=>446|n=>n,fun|3=>4|4=>5|n=>n⟩
theorem Tryz.lays160 :Go.Proofs.Lays.n160 Tryz.prog Tryz.lays160_ren:={
  mixed:=by kernel_rfl
  f119:=Tryz.func365.trans (congrArg some (by kernel_rfl))
  f120:=Tryz.func343.trans (congrArg some (by kernel_rfl))
  f137:=Tryz.func364.trans (congrArg some (by kernel_rfl))
  f151:=Tryz.func303.trans (congrArg some (by kernel_rfl))
  f152:=Tryz.func342.trans (congrArg some (by kernel_rfl))
  f160:=Tryz.func195.trans (congrArg some (by kernel_rfl))
  f197:=Tryz.func302.trans (congrArg some (by kernel_rfl))
  f217:=Tryz.func348.trans (congrArg some (by kernel_rfl))
  f224:=Tryz.func350.trans (congrArg some (by kernel_rfl))
  f225:=Tryz.func349.trans (congrArg some (by kernel_rfl))
  f227:=Tryz.func242.trans (congrArg some (by kernel_rfl))
  f228:=Tryz.func301.trans (congrArg some (by kernel_rfl))
  f231:=Tryz.func240.trans (congrArg some (by kernel_rfl))
  f232:=Tryz.func241.trans (congrArg some (by kernel_rfl))
  f233:=Tryz.func243.trans (congrArg some (by kernel_rfl))
  f234:=Tryz.func244.trans (congrArg some (by kernel_rfl))
  f235:=Tryz.func245.trans (congrArg some (by kernel_rfl))
  f236:=Tryz.func246.trans (congrArg some (by kernel_rfl))
  f260:=Tryz.func341.trans (congrArg some (by kernel_rfl))
  f266:=Tryz.func367.trans (congrArg some (by kernel_rfl))
  f271:=Tryz.func304.trans (congrArg some (by kernel_rfl))
  t0:=Tryz.underlying0
  a0:=Tryz.isAgg0
  z0:=Tryz.sizeOf0
  v0:=Tryz.zeroValue0
  t3:=Tryz.underlying3
  a3:=Tryz.isAgg3
  z3:=Tryz.sizeOf3
  v3:=Tryz.zeroValue3
  t4:=Tryz.underlying4
  a4:=Tryz.isAgg4
  z4:=Tryz.sizeOf4
  v4:=Tryz.zeroValue4
  t5:=Tryz.underlying5
  a5:=Tryz.isAgg5
  z5:=Tryz.sizeOf5
  v5:=Tryz.zeroValue5
  t9:=Tryz.underlying9
  a9:=Tryz.isAgg9
  z9:=Tryz.sizeOf9
  v9:=Tryz.zeroValue9
  t21:=Tryz.underlying21
  a21:=Tryz.isAgg21
  z21:=Tryz.sizeOf21
  v21:=Tryz.zeroValue21
  t46:=Tryz.underlying197
  a46:=Tryz.isAgg197
  z46:=Tryz.sizeOf197
  v46:=Tryz.zeroValue197
  t105:=Tryz.underlying397
  a105:=Tryz.isAgg397
  z105:=Tryz.sizeOf397
  v105:=Tryz.zeroValue397
  t116:=Tryz.underlying356
  a116:=Tryz.isAgg356
  z116:=Tryz.sizeOf356
  t117:=Tryz.underlying357
  a117:=Tryz.isAgg357
  z117:=Tryz.sizeOf357
  v117:=Tryz.zeroValue357
  t119:=Tryz.underlying444
  a119:=Tryz.isAgg444
  z119:=Tryz.sizeOf444
  t124:=Tryz.underlying360
  a124:=Tryz.isAgg360
  z124:=Tryz.sizeOf360
  v124:=Tryz.zeroValue360
  t138:=Tryz.underlying446
  a138:=Tryz.isAgg446
  z138:=Tryz.sizeOf446
  v138:=Tryz.zeroValue446
  t139:=Tryz.underlying447
  a139:=Tryz.isAgg447
  z139:=Tryz.sizeOf447
  v139:=Tryz.zeroValue447
  g3:=by kernel_rfl
  g4:=by kernel_rfl}
def Tryz.lays125_ren :Go.Shelf.Ren:=⟨fun|125=>179|128=>231|129=>232|n=>n,fun|46=>197|3=>3|51=>205|53=>283|4=>4|5=>5|9=>9|n=>n,fun|n=>n⟩
theorem Tryz.lays125 :Go.Proofs.Lays.n125 Tryz.prog Tryz.lays125_ren:={
  mixed:=by kernel_rfl
  f125:=Tryz.func179.trans (congrArg some (by kernel_rfl))
  f128:=Tryz.func231.trans (congrArg some (by kernel_rfl))
  f129:=Tryz.func232.trans (congrArg some (by kernel_rfl))
  t3:=Tryz.underlying3
  a3:=Tryz.isAgg3
  z3:=Tryz.sizeOf3
  v3:=Tryz.zeroValue3
  t4:=Tryz.underlying4
  a4:=Tryz.isAgg4
  z4:=Tryz.sizeOf4
  v4:=Tryz.zeroValue4
  t5:=Tryz.underlying5
  a5:=Tryz.isAgg5
  z5:=Tryz.sizeOf5
  v5:=Tryz.zeroValue5
  t9:=Tryz.underlying9
  a9:=Tryz.isAgg9
  z9:=Tryz.sizeOf9
  v9:=Tryz.zeroValue9
  t46:=Tryz.underlying197
  a46:=Tryz.isAgg197
  z46:=Tryz.sizeOf197
  v46:=Tryz.zeroValue197
  t51:=Tryz.underlying205
  a51:=Tryz.isAgg205
  z51:=Tryz.sizeOf205
  v51:=Tryz.zeroValue205
  t53:=Tryz.underlying283
  a53:=Tryz.isAgg283
  z53:=Tryz.sizeOf283
  v53:=Tryz.zeroValue283}
theorem Tryz.bits_Len (x:Int) (w:World) (h0:0≤x) (h1:x≤18446744073709551615):
    Calls Tryz.prog 179 #[.int .u64 x] w fun e w'=>e= .returned (.int .i64 (Lib.bitLen x.toNat))∧w'=w:=Any.bits_Len Tryz.lays125 x w h0 h1
def Tryz.lays213_ren :Go.Shelf.Ren:=⟨fun|213=>200|265=>257|n=>n,fun|9=>9|3=>3|n=>n,fun|n=>n⟩
def Tryz.lays106_ren :Go.Shelf.Ren:=⟨fun|106=>143|213=>200|265=>257|n=>n,fun|9=>9|3=>3|n=>n,fun|n=>n⟩
theorem Tryz.lays106 :Go.Proofs.Lays.n106 Tryz.prog Tryz.lays106_ren:={
  mixed:=by kernel_rfl
  f106:=Tryz.func143.trans (congrArg some (by kernel_rfl))
  f213:=Tryz.func200.trans (congrArg some (by kernel_rfl))
  f265:=Tryz.func257.trans (congrArg some (by kernel_rfl))
  t3:=Tryz.underlying3
  a3:=Tryz.isAgg3
  z3:=Tryz.sizeOf3
  v3:=Tryz.zeroValue3
  t9:=Tryz.underlying9
  a9:=Tryz.isAgg9
  z9:=Tryz.sizeOf9
  v9:=Tryz.zeroValue9}
open Go.RowKit in
theorem Tryz.strings_Compare (a b:ByteArray) (w:World):
    Calls Tryz.prog 143 #[.string a,.string b] w fun e w'=>e= .returned (.int .i64 (Lib.compareBytes a.data.toList b.data.toList))∧w'=w:=Any.strings_Compare Tryz.lays106 a b w
def Tryz.lays104_ren :Go.Shelf.Ren:=⟨fun|104=>206|211=>266|207=>323|n=>n,fun|9=>9|4=>4|24=>154|3=>3|n=>n,fun|n=>n⟩
theorem Tryz.lays104 :Go.Proofs.Lays.n104 Tryz.prog Tryz.lays104_ren:={
  mixed:=by kernel_rfl
  f104:=Tryz.func206.trans (congrArg some (by kernel_rfl))
  f207:=Tryz.func323.trans (congrArg some (by kernel_rfl))
  f211:=Tryz.func266.trans (congrArg some (by kernel_rfl))
  t3:=Tryz.underlying3
  a3:=Tryz.isAgg3
  z3:=Tryz.sizeOf3
  v3:=Tryz.zeroValue3
  t4:=Tryz.underlying4
  a4:=Tryz.isAgg4
  z4:=Tryz.sizeOf4
  v4:=Tryz.zeroValue4
  t9:=Tryz.underlying9
  a9:=Tryz.isAgg9
  z9:=Tryz.sizeOf9
  v9:=Tryz.zeroValue9
  t24:=Tryz.underlying154
  a24:=Tryz.isAgg154
  z24:=Tryz.sizeOf154
  v24:=Tryz.zeroValue154}
open Go.RowKit in
theorem Tryz.strings_CutSuffix (s p:ByteArray) (w:World) (hs:s.size≤9223372036854775807):
    Calls Tryz.prog 206 #[.string s,.string p] w fun e w'=>e= .returned (.tuple #[.string ⟨(Lib.trimSuffix s.data.toList p.data.toList).toArray⟩,.bool (Lib.hasSuffix s.data.toList p.data.toList)])∧w'=w:=Any.strings_CutSuffix Tryz.lays104 s p w hs
def Tryz.lays172_ren :Go.Shelf.Ren:=⟨fun|172=>264|244=>320|245=>321|247=>352|279=>353|280=>354|281=>355|282=>356|287=>369|316=>370|171=>265|205=>371|321=>379|322=>380|243=>322|246=>357|283=>372|284=>373|285=>374|286=>375|129=>232|317=>381|318=>382|319=>383|320=>384|337=>387|338=>388|n=>n,fun|9=>9|3=>3|75=>371|76=>372|4=>4|5=>5|167=>432|37=>23|0=>0|85=>433|2=>2|168=>435|53=>283|175=>452|46=>197|210=>456|127=>465|145=>468|143=>466|21=>21|171=>458|173=>460|212=>470|51=>205|20=>20|213=>471|232=>472|233=>473|80=>474|n=>n,fun|15=>6|16=>7|17=>8|18=>9|19=>10|n=>n⟩
def Tryz.laysM246_ren :Go.Shelf.Ren:=⟨fun|246=>357|283=>372|284=>373|285=>374|286=>375|129=>232|317=>381|318=>382|319=>383|320=>384|337=>387|338=>388|n=>n,fun|2=>2|3=>3|9=>9|4=>4|171=>458|0=>0|53=>283|37=>23|5=>5|173=>460|212=>470|51=>205|20=>20|213=>471|46=>197|232=>472|233=>473|n=>n,fun|17=>8|18=>9|19=>10|n=>n⟩
def Tryz.laysM243_ren :Go.Shelf.Ren:=⟨fun|243=>322|246=>357|283=>372|284=>373|285=>374|286=>375|129=>232|317=>381|318=>382|319=>383|320=>384|337=>387|338=>388|n=>n,fun|3=>3|9=>9|2=>2|4=>4|171=>458|0=>0|53=>283|37=>23|5=>5|173=>460|212=>470|51=>205|20=>20|213=>471|46=>197|232=>472|233=>473|n=>n,fun|17=>8|18=>9|19=>10|n=>n⟩
def Tryz.laysM171_ren :Go.Shelf.Ren:=⟨fun|171=>265|243=>322|246=>357|283=>372|284=>373|285=>374|286=>375|129=>232|317=>381|318=>382|319=>383|320=>384|337=>387|338=>388|n=>n,fun|3=>3|9=>9|2=>2|4=>4|171=>458|0=>0|53=>283|37=>23|5=>5|173=>460|212=>470|51=>205|20=>20|213=>471|46=>197|232=>472|233=>473|n=>n,fun|17=>8|18=>9|19=>10|n=>n⟩
theorem Tryz.laysM171 :Go.Proofs.LaysM.n171 Tryz.prog Tryz.laysM171_ren:={
  mixed:=by kernel_rfl
  f129:=Tryz.func232.trans (congrArg some (by kernel_rfl))
  f171:=Tryz.func265.trans (congrArg some (by kernel_rfl))
  f243:=Tryz.func322.trans (congrArg some (by kernel_rfl))
  f246:=Tryz.func357.trans (congrArg some (by kernel_rfl))
  f283:=Tryz.func372.trans (congrArg some (by kernel_rfl))
  f284:=Tryz.func373.trans (congrArg some (by kernel_rfl))
  f285:=Tryz.func374.trans (congrArg some (by kernel_rfl))
  f286:=Tryz.func375.trans (congrArg some (by kernel_rfl))
  f317:=Tryz.func381.trans (congrArg some (by kernel_rfl))
  f318:=Tryz.func382.trans (congrArg some (by kernel_rfl))
  f319:=Tryz.func383.trans (congrArg some (by kernel_rfl))
  f320:=Tryz.func384.trans (congrArg some (by kernel_rfl))
  f337:=Tryz.func387.trans (congrArg some (by kernel_rfl))
  f338:=Tryz.func388.trans (congrArg some (by kernel_rfl))
  t0:=Tryz.underlying0
  a0:=Tryz.isAgg0
  z0:=Tryz.sizeOf0
  v0:=Tryz.zeroValue0
  t2:=Tryz.underlying2
  a2:=Tryz.isAgg2
  z2:=Tryz.sizeOf2
  v2:=Tryz.zeroValue2
  t3:=Tryz.underlying3
  a3:=Tryz.isAgg3
  z3:=Tryz.sizeOf3
  v3:=Tryz.zeroValue3
  t4:=Tryz.underlying4
  a4:=Tryz.isAgg4
  z4:=Tryz.sizeOf4
  v4:=Tryz.zeroValue4
  t5:=Tryz.underlying5
  a5:=Tryz.isAgg5
  z5:=Tryz.sizeOf5
  v5:=Tryz.zeroValue5
  t9:=Tryz.underlying9
  a9:=Tryz.isAgg9
  z9:=Tryz.sizeOf9
  v9:=Tryz.zeroValue9
  t20:=Tryz.underlying20
  a20:=Tryz.isAgg20
  z20:=Tryz.sizeOf20
  v20:=Tryz.zeroValue20
  t37:=Tryz.underlying23
  a37:=Tryz.isAgg23
  z37:=Tryz.sizeOf23
  v37:=Tryz.zeroValue23
  t46:=Tryz.underlying197
  a46:=Tryz.isAgg197
  z46:=Tryz.sizeOf197
  v46:=Tryz.zeroValue197
  t51:=Tryz.underlying205
  a51:=Tryz.isAgg205
  z51:=Tryz.sizeOf205
  v51:=Tryz.zeroValue205
  t53:=Tryz.underlying283
  a53:=Tryz.isAgg283
  z53:=Tryz.sizeOf283
  v53:=Tryz.zeroValue283
  t171:=Tryz.underlying458
  a171:=Tryz.isAgg458
  z171:=Tryz.sizeOf458
  v171:=Tryz.zeroValue458
  t173:=Tryz.underlying460
  a173:=Tryz.isAgg460
  z173:=Tryz.sizeOf460
  v173:=Tryz.zeroValue460
  t212:=Tryz.underlying470
  a212:=Tryz.isAgg470
  z212:=Tryz.sizeOf470
  v212:=Tryz.zeroValue470
  t213:=Tryz.underlying471
  a213:=Tryz.isAgg471
  z213:=Tryz.sizeOf471
  t232:=Tryz.underlying472
  a232:=Tryz.isAgg472
  z232:=Tryz.sizeOf472
  v232:=Tryz.zeroValue472
  t233:=Tryz.underlying473
  a233:=Tryz.isAgg473
  z233:=Tryz.sizeOf473
  v233:=Tryz.zeroValue473
  g17:=by kernel_rfl
  g18:=by kernel_rfl
  g19:=by kernel_rfl
  i0:=by kernel_rfl
  i2:=by kernel_rfl
  i3:=by kernel_rfl
  i4:=by kernel_rfl
  i5:=by kernel_rfl
  i9:=by kernel_rfl
  i20:=by kernel_rfl
  i37:=by kernel_rfl
  i46:=by kernel_rfl
  i51:=by kernel_rfl
  i53:=by kernel_rfl
  i171:=by kernel_rfl
  i173:=by kernel_rfl
  i212:=by kernel_rfl
  i232:=by kernel_rfl
  i233:=by kernel_rfl
  m17:=by kernel_rfl
  m18:=by kernel_rfl
  m19:=by kernel_rfl}
open Go.RowKit Go.Sort Go.Lib in
theorem Tryz.strconv_Itoa (n:Int) (h0: -9223372036854775808≤n) (h1:n≤9223372036854775807) (w:World) (htab:Lib.TabIs Tryz.prog w "internal/strconv.uint64pow10" .u64 Lib.pow10Tab):
    Calls Tryz.prog 265 #[.int .i64 n] w fun e w'=>e= .returned (.string ⟨(Lib.itoa n).toArray⟩)∧∃k os,w'=grow (w.drewN k) os:=Any.strconv_Itoa Tryz.laysM171 n h0 h1 w htab
def Tryz.laysC172_ren :Go.Shelf.Ren:=⟨fun|172=>264|244=>320|245=>321|247=>352|279=>353|280=>354|281=>355|282=>356|287=>369|316=>370|171=>265|205=>371|321=>379|322=>380|243=>322|246=>357|283=>372|284=>373|285=>374|286=>375|129=>232|317=>381|318=>382|319=>383|320=>384|337=>387|338=>388|n=>n,fun|9=>9|3=>3|75=>371|76=>372|4=>4|5=>5|167=>432|37=>23|0=>0|85=>433|2=>2|168=>435|53=>283|175=>452|46=>197|210=>456|127=>465|145=>468|143=>466|21=>21|171=>458|173=>460|212=>470|51=>205|20=>20|213=>471|232=>472|233=>473|80=>474|n=>n,fun|15=>6|16=>7|17=>8|18=>9|19=>10|n=>n⟩
theorem Tryz.laysC172 :Go.Proofs.LaysC.n172 Tryz.prog Tryz.laysC172_ren:={
  mixed:=by kernel_rfl
  f129:=Tryz.func232.trans (congrArg some (by kernel_rfl))
  f171:=Tryz.func265.trans (congrArg some (by kernel_rfl))
  f172:=Tryz.func264.trans (congrArg some (by kernel_rfl))
  f205:=Tryz.func371.trans (congrArg some (by kernel_rfl))
  f243:=Tryz.func322.trans (congrArg some (by kernel_rfl))
  f244:=Tryz.func320.trans (congrArg some (by kernel_rfl))
  f245:=Tryz.func321.trans (congrArg some (by kernel_rfl))
  f246:=Tryz.func357.trans (congrArg some (by kernel_rfl))
  f247:=Tryz.func352.trans (congrArg some (by kernel_rfl))
  f279:=Tryz.func353.trans (congrArg some (by kernel_rfl))
  f280:=Tryz.func354.trans (congrArg some (by kernel_rfl))
  f281:=Tryz.func355.trans (congrArg some (by kernel_rfl))
  f282:=Tryz.func356.trans (congrArg some (by kernel_rfl))
  f283:=Tryz.func372.trans (congrArg some (by kernel_rfl))
  f284:=Tryz.func373.trans (congrArg some (by kernel_rfl))
  f285:=Tryz.func374.trans (congrArg some (by kernel_rfl))
  f286:=Tryz.func375.trans (congrArg some (by kernel_rfl))
  f287:=Tryz.func369.trans (congrArg some (by kernel_rfl))
  f316:=Tryz.func370.trans (congrArg some (by kernel_rfl))
  f317:=Tryz.func381.trans (congrArg some (by kernel_rfl))
  f318:=Tryz.func382.trans (congrArg some (by kernel_rfl))
  f319:=Tryz.func383.trans (congrArg some (by kernel_rfl))
  f320:=Tryz.func384.trans (congrArg some (by kernel_rfl))
  f321:=Tryz.func379.trans (congrArg some (by kernel_rfl))
  f322:=Tryz.func380.trans (congrArg some (by kernel_rfl))
  f337:=Tryz.func387.trans (congrArg some (by kernel_rfl))
  f338:=Tryz.func388.trans (congrArg some (by kernel_rfl))
  t0:=Tryz.underlying0
  a0:=Tryz.isAgg0
  z0:=Tryz.sizeOf0
  v0:=Tryz.zeroValue0
  t2:=Tryz.underlying2
  a2:=Tryz.isAgg2
  z2:=Tryz.sizeOf2
  v2:=Tryz.zeroValue2
  t3:=Tryz.underlying3
  a3:=Tryz.isAgg3
  z3:=Tryz.sizeOf3
  v3:=Tryz.zeroValue3
  t4:=Tryz.underlying4
  a4:=Tryz.isAgg4
  z4:=Tryz.sizeOf4
  v4:=Tryz.zeroValue4
  t5:=Tryz.underlying5
  a5:=Tryz.isAgg5
  z5:=Tryz.sizeOf5
  v5:=Tryz.zeroValue5
  t9:=Tryz.underlying9
  a9:=Tryz.isAgg9
  z9:=Tryz.sizeOf9
  v9:=Tryz.zeroValue9
  t20:=Tryz.underlying20
  a20:=Tryz.isAgg20
  z20:=Tryz.sizeOf20
  v20:=Tryz.zeroValue20
  t21:=Tryz.underlying21
  a21:=Tryz.isAgg21
  z21:=Tryz.sizeOf21
  v21:=Tryz.zeroValue21
  t37:=Tryz.underlying23
  a37:=Tryz.isAgg23
  z37:=Tryz.sizeOf23
  v37:=Tryz.zeroValue23
  t46:=Tryz.underlying197
  a46:=Tryz.isAgg197
  z46:=Tryz.sizeOf197
  v46:=Tryz.zeroValue197
  t51:=Tryz.underlying205
  a51:=Tryz.isAgg205
  z51:=Tryz.sizeOf205
  v51:=Tryz.zeroValue205
  t53:=Tryz.underlying283
  a53:=Tryz.isAgg283
  z53:=Tryz.sizeOf283
  v53:=Tryz.zeroValue283
  t75:=Tryz.underlying371
  a75:=Tryz.isAgg371
  z75:=Tryz.sizeOf371
  v75:=Tryz.zeroValue371
  t76:=Tryz.underlying372
  a76:=Tryz.isAgg372
  z76:=Tryz.sizeOf372
  v76:=Tryz.zeroValue372
  t85:=Tryz.underlying433
  a85:=Tryz.isAgg433
  z85:=Tryz.sizeOf433
  v85:=Tryz.zeroValue433
  t127:=Tryz.underlying465
  a127:=Tryz.isAgg465
  z127:=Tryz.sizeOf465
  v127:=Tryz.zeroValue465
  t143:=Tryz.underlying466
  a143:=Tryz.isAgg466
  z143:=Tryz.sizeOf466
  v143:=Tryz.zeroValue466
  t145:=Tryz.underlying468
  a145:=Tryz.isAgg468
  z145:=Tryz.sizeOf468
  v145:=Tryz.zeroValue468
  t167:=Tryz.underlying432
  a167:=Tryz.isAgg432
  z167:=Tryz.sizeOf432
  v167:=Tryz.zeroValue432
  t168:=Tryz.underlying435
  a168:=Tryz.isAgg435
  z168:=Tryz.sizeOf435
  v168:=Tryz.zeroValue435
  t171:=Tryz.underlying458
  a171:=Tryz.isAgg458
  z171:=Tryz.sizeOf458
  v171:=Tryz.zeroValue458
  t173:=Tryz.underlying460
  a173:=Tryz.isAgg460
  z173:=Tryz.sizeOf460
  v173:=Tryz.zeroValue460
  t175:=Tryz.underlying452
  a175:=Tryz.isAgg452
  z175:=Tryz.sizeOf452
  v175:=Tryz.zeroValue452
  t210:=Tryz.underlying456
  a210:=Tryz.isAgg456
  z210:=Tryz.sizeOf456
  v210:=Tryz.zeroValue456
  t212:=Tryz.underlying470
  a212:=Tryz.isAgg470
  z212:=Tryz.sizeOf470
  v212:=Tryz.zeroValue470
  t213:=Tryz.underlying471
  a213:=Tryz.isAgg471
  z213:=Tryz.sizeOf471
  t232:=Tryz.underlying472
  a232:=Tryz.isAgg472
  z232:=Tryz.sizeOf472
  v232:=Tryz.zeroValue472
  t233:=Tryz.underlying473
  a233:=Tryz.isAgg473
  z233:=Tryz.sizeOf473
  v233:=Tryz.zeroValue473
  g15:=by kernel_rfl
  g16:=by kernel_rfl
  g17:=by kernel_rfl
  g18:=by kernel_rfl
  g19:=by kernel_rfl
  t80:=Tryz.underlying474
  a80:=Tryz.isAgg474
  z80:=Tryz.sizeOf474
  v80:=Tryz.zeroValue474
  i0:=by kernel_rfl
  i2:=by kernel_rfl
  i3:=by kernel_rfl
  i4:=by kernel_rfl
  i5:=by kernel_rfl
  i9:=by kernel_rfl
  i20:=by kernel_rfl
  i21:=by kernel_rfl
  i37:=by kernel_rfl
  i46:=by kernel_rfl
  i51:=by kernel_rfl
  i53:=by kernel_rfl
  i75:=by kernel_rfl
  i76:=by kernel_rfl
  i80:=by kernel_rfl
  i85:=by kernel_rfl
  i127:=by kernel_rfl
  i143:=by kernel_rfl
  i145:=by kernel_rfl
  i167:=by kernel_rfl
  i168:=by kernel_rfl
  i171:=by kernel_rfl
  i173:=by kernel_rfl
  i175:=by kernel_rfl
  i210:=by kernel_rfl
  i212:=by kernel_rfl
  i232:=by kernel_rfl
  i233:=by kernel_rfl
  m15:=by kernel_rfl
  m16:=by kernel_rfl
  m17:=by kernel_rfl
  m18:=by kernel_rfl
  m19:=by kernel_rfl
  c0:=by kernel_rfl
  c2:=by kernel_rfl
  c3:=by kernel_rfl
  c4:=by kernel_rfl
  c5:=by kernel_rfl
  c9:=by kernel_rfl
  c20:=by kernel_rfl
  c21:=by kernel_rfl
  c37:=by kernel_rfl
  c46:=by kernel_rfl
  c51:=by kernel_rfl
  c53:=by kernel_rfl
  c75:=by kernel_rfl
  c76:=by kernel_rfl
  c80:=by kernel_rfl
  c85:=by kernel_rfl
  c127:=by kernel_rfl
  c143:=by kernel_rfl
  c145:=by kernel_rfl
  c167:=by kernel_rfl
  c168:=by kernel_rfl
  c171:=by kernel_rfl
  c173:=by kernel_rfl
  c175:=by kernel_rfl
  c210:=by kernel_rfl
  c212:=by kernel_rfl
  c213:=by kernel_rfl
  c232:=by kernel_rfl
  c233:=by kernel_rfl}
open Go.RowKit in
theorem Tryz.strconv_Atoi_ok (s:ByteArray) (hmax:s.size≤9223372036854775806) (v:Int) (h:Lib.atoiAll s.data.toList= .ok v) (w:World):
    Calls Tryz.prog 264 #[.string s] w fun e w'=>e= .returned (.tuple #[.int .i64 v,.nilIface])∧(w'=w∨∃t,w'=Lib.bytesWorld w 5 t):=Any.strconv_Atoi_ok Tryz.laysC172 s hmax v h w
open Go.RowKit in
theorem Tryz.strconv_Atoi_syntax (s:ByteArray) (hlim:s.size≤281474976710656) (h:Lib.atoiAll s.data.toList= .«syntax») (ev:Value) (w:World) (hv:w.cell? ⟨6,0,none⟩=some ev) (hev:ev= .nilIface∨∃te pe,ev= .iface te pe):
    Calls Tryz.prog 264 #[.string s] w fun e w'=>∃N,e= .returned (.tuple #[.int .i64 (0),.iface 435 (.pointer (some ⟨N,0,none⟩))])∧w.heap.size≤N∧w'.heap[N]? =some (.cells #[.string ⟨#[65,116,111,105]⟩,.string s,ev] 456 (0,0))∧Below w.heap.size w w':=Any.strconv_Atoi_syntax Tryz.laysC172 s hlim h ev w hv hev
open Go.RowKit in
theorem Tryz.strconv_Atoi_range (s:ByteArray) (hlim:s.size≤281474976710656) (h:Lib.atoiAll s.data.toList= .range) (ev:Value) (w:World) (hv:w.cell? ⟨7,0,none⟩=some ev) (hev:ev= .nilIface∨∃te pe,ev= .iface te pe):
    Calls Tryz.prog 264 #[.string s] w fun e w'=>∃N,e= .returned (.tuple #[.int .i64 (Lib.atoiSat s.data.toList),.iface 435 (.pointer (some ⟨N,0,none⟩))])∧w.heap.size≤N∧w'.heap[N]? =some (.cells #[.string ⟨#[65,116,111,105]⟩,.string s,ev] 456 (0,0))∧Below w.heap.size w w':=Any.strconv_Atoi_range Tryz.laysC172 s hlim h ev w hv hev
def Tryz.lays219_ren :Go.Shelf.Ren:=⟨fun|219=>319|217=>348|225=>349|224=>350|267=>351|266=>367|314=>368|n=>n,fun|9=>9|3=>3|4=>4|5=>5|46=>197|146=>450|51=>205|n=>n,fun|1=>0|n=>n⟩
def Tryz.lays145_ren :Go.Shelf.Ren:=⟨fun|145=>203|220=>262|219=>319|217=>348|225=>349|224=>350|267=>351|266=>367|314=>368|n=>n,fun|9=>9|4=>4|59=>315|3=>3|5=>5|46=>197|146=>450|51=>205|n=>n,fun|1=>0|n=>n⟩
def Tryz.laysM145_ren :Go.Shelf.Ren:=⟨fun|145=>203|220=>262|219=>319|217=>348|225=>349|224=>350|267=>351|266=>367|314=>368|n=>n,fun|9=>9|4=>4|59=>315|3=>3|5=>5|46=>197|146=>450|51=>205|n=>n,fun|1=>0|n=>n⟩
theorem Tryz.laysM145 :Go.Proofs.LaysM.n145 Tryz.prog Tryz.laysM145_ren:={
  mixed:=by kernel_rfl
  f145:=Tryz.func203.trans (congrArg some (by kernel_rfl))
  f217:=Tryz.func348.trans (congrArg some (by kernel_rfl))
  f219:=Tryz.func319.trans (congrArg some (by kernel_rfl))
  f220:=Tryz.func262.trans (congrArg some (by kernel_rfl))
  f224:=Tryz.func350.trans (congrArg some (by kernel_rfl))
  f225:=Tryz.func349.trans (congrArg some (by kernel_rfl))
  f266:=Tryz.func367.trans (congrArg some (by kernel_rfl))
  f267:=Tryz.func351.trans (congrArg some (by kernel_rfl))
  f314:=Tryz.func368.trans (congrArg some (by kernel_rfl))
  t3:=Tryz.underlying3
  a3:=Tryz.isAgg3
  z3:=Tryz.sizeOf3
  v3:=Tryz.zeroValue3
  t4:=Tryz.underlying4
  a4:=Tryz.isAgg4
  z4:=Tryz.sizeOf4
  v4:=Tryz.zeroValue4
  t5:=Tryz.underlying5
  a5:=Tryz.isAgg5
  z5:=Tryz.sizeOf5
  v5:=Tryz.zeroValue5
  t9:=Tryz.underlying9
  a9:=Tryz.isAgg9
  z9:=Tryz.sizeOf9
  v9:=Tryz.zeroValue9
  t46:=Tryz.underlying197
  a46:=Tryz.isAgg197
  z46:=Tryz.sizeOf197
  v46:=Tryz.zeroValue197
  t51:=Tryz.underlying205
  a51:=Tryz.isAgg205
  z51:=Tryz.sizeOf205
  v51:=Tryz.zeroValue205
  t59:=Tryz.underlying315
  a59:=Tryz.isAgg315
  z59:=Tryz.sizeOf315
  v59:=Tryz.zeroValue315
  t146:=Tryz.underlying450
  a146:=Tryz.isAgg450
  z146:=Tryz.sizeOf450
  v146:=Tryz.zeroValue450
  g1:=by kernel_rfl
  i3:=by kernel_rfl
  i4:=by kernel_rfl
  i5:=by kernel_rfl
  i9:=by kernel_rfl
  i46:=by kernel_rfl
  i51:=by kernel_rfl
  i59:=by kernel_rfl
  i146:=by kernel_rfl
  m1:=by kernel_rfl
  s1_3:=fun w h=>Go.Proofs.cell_of_shapedOpen_int (zero:=#[.int .i64 0]) (t:=3) h (of_decide_eq_true (by kernel_rfl)) (by kernel_rfl) rfl (by kernel_rfl) (by kernel_rfl) Tryz.underlying3}
open Go.RowKit Go.Lib in
theorem Tryz.strings_Cut_shaped (s sep:ByteArray) (w:World) (h:w.ShapedOpen Tryz.prog) (hs:s.size<4294967281):
    Calls Tryz.prog 203 #[.string s,.string sep] w fun e w'=>e= .returned (.tuple #[.string ⟨(Lib.cut s.data.toList sep.data.toList).1.toArray⟩,.string ⟨(Lib.cut s.data.toList sep.data.toList).2.1.toArray⟩,.bool (Lib.cut s.data.toList sep.data.toList).2.2])∧∃n,w'=w.drewN n:=Any.strings_Cut_shaped Tryz.laysM145 s sep w h hs
def Tryz.lays221_ren :Go.Shelf.Ren:=⟨fun|221=>202|268=>259|138=>260|143=>261|195=>317|197=>302|218=>318|219=>319|260=>341|217=>348|225=>349|224=>350|267=>351|266=>367|314=>368|n=>n,fun|9=>9|3=>3|31=>86|4=>4|0=>0|105=>397|21=>21|5=>5|46=>197|119=>444|139=>447|138=>446|146=>450|51=>205|n=>n,fun|1=>0|3=>4|4=>5|n=>n⟩
def Tryz.lays146_ren :Go.Shelf.Ren:=⟨fun|146=>147|221=>202|268=>259|138=>260|143=>261|195=>317|197=>302|218=>318|219=>319|260=>341|217=>348|225=>349|224=>350|267=>351|266=>367|314=>368|n=>n,fun|9=>9|31=>86|3=>3|4=>4|0=>0|105=>397|21=>21|5=>5|46=>197|119=>444|139=>447|138=>446|146=>450|51=>205|n=>n,fun|1=>0|3=>4|4=>5|n=>n⟩
def Tryz.laysM146_ren :Go.Shelf.Ren:=⟨fun|146=>147|221=>202|268=>259|138=>260|143=>261|195=>317|197=>302|218=>318|219=>319|260=>341|217=>348|225=>349|224=>350|267=>351|266=>367|314=>368|n=>n,fun|9=>9|31=>86|3=>3|4=>4|0=>0|105=>397|21=>21|5=>5|46=>197|119=>444|139=>447|138=>446|146=>450|51=>205|n=>n,fun|1=>0|3=>4|4=>5|n=>n⟩
theorem Tryz.laysM146 :Go.Proofs.LaysM.n146 Tryz.prog Tryz.laysM146_ren:={
  mixed:=by kernel_rfl
  f138:=Tryz.func260.trans (congrArg some (by kernel_rfl))
  f143:=Tryz.func261.trans (congrArg some (by kernel_rfl))
  f146:=Tryz.func147.trans (congrArg some (by kernel_rfl))
  f195:=Tryz.func317.trans (congrArg some (by kernel_rfl))
  f197:=Tryz.func302.trans (congrArg some (by kernel_rfl))
  f217:=Tryz.func348.trans (congrArg some (by kernel_rfl))
  f218:=Tryz.func318.trans (congrArg some (by kernel_rfl))
  f219:=Tryz.func319.trans (congrArg some (by kernel_rfl))
  f221:=Tryz.func202.trans (congrArg some (by kernel_rfl))
  f224:=Tryz.func350.trans (congrArg some (by kernel_rfl))
  f225:=Tryz.func349.trans (congrArg some (by kernel_rfl))
  f260:=Tryz.func341.trans (congrArg some (by kernel_rfl))
  f266:=Tryz.func367.trans (congrArg some (by kernel_rfl))
  f267:=Tryz.func351.trans (congrArg some (by kernel_rfl))
  f268:=Tryz.func259.trans (congrArg some (by kernel_rfl))
  f314:=Tryz.func368.trans (congrArg some (by kernel_rfl))
  t0:=Tryz.underlying0
  a0:=Tryz.isAgg0
  z0:=Tryz.sizeOf0
  v0:=Tryz.zeroValue0
  t3:=Tryz.underlying3
  a3:=Tryz.isAgg3
  z3:=Tryz.sizeOf3
  v3:=Tryz.zeroValue3
  t4:=Tryz.underlying4
  a4:=Tryz.isAgg4
  z4:=Tryz.sizeOf4
  v4:=Tryz.zeroValue4
  t5:=Tryz.underlying5
  a5:=Tryz.isAgg5
  z5:=Tryz.sizeOf5
  v5:=Tryz.zeroValue5
  t9:=Tryz.underlying9
  a9:=Tryz.isAgg9
  z9:=Tryz.sizeOf9
  v9:=Tryz.zeroValue9
  t21:=Tryz.underlying21
  a21:=Tryz.isAgg21
  z21:=Tryz.sizeOf21
  v21:=Tryz.zeroValue21
  t31:=Tryz.underlying86
  a31:=Tryz.isAgg86
  z31:=Tryz.sizeOf86
  v31:=Tryz.zeroValue86
  t46:=Tryz.underlying197
  a46:=Tryz.isAgg197
  z46:=Tryz.sizeOf197
  v46:=Tryz.zeroValue197
  t51:=Tryz.underlying205
  a51:=Tryz.isAgg205
  z51:=Tryz.sizeOf205
  v51:=Tryz.zeroValue205
  t105:=Tryz.underlying397
  a105:=Tryz.isAgg397
  z105:=Tryz.sizeOf397
  v105:=Tryz.zeroValue397
  t119:=Tryz.underlying444
  a119:=Tryz.isAgg444
  z119:=Tryz.sizeOf444
  t138:=Tryz.underlying446
  a138:=Tryz.isAgg446
  z138:=Tryz.sizeOf446
  v138:=Tryz.zeroValue446
  t139:=Tryz.underlying447
  a139:=Tryz.isAgg447
  z139:=Tryz.sizeOf447
  v139:=Tryz.zeroValue447
  t146:=Tryz.underlying450
  a146:=Tryz.isAgg450
  z146:=Tryz.sizeOf450
  v146:=Tryz.zeroValue450
  g1:=by kernel_rfl
  g3:=by kernel_rfl
  g4:=by kernel_rfl
  i0:=by kernel_rfl
  i3:=by kernel_rfl
  i4:=by kernel_rfl
  i5:=by kernel_rfl
  i9:=by kernel_rfl
  i21:=by kernel_rfl
  i31:=by kernel_rfl
  i46:=by kernel_rfl
  i51:=by kernel_rfl
  i105:=by kernel_rfl
  i138:=by kernel_rfl
  i139:=by kernel_rfl
  i146:=by kernel_rfl
  m1:=by kernel_rfl
  s1_3:=fun w h=>Go.Proofs.cell_of_shapedOpen_int (zero:=#[.int .i64 0]) (t:=3) h (of_decide_eq_true (by kernel_rfl)) (by kernel_rfl) rfl (by kernel_rfl) (by kernel_rfl) Tryz.underlying3
  m3:=by kernel_rfl
  m4:=by kernel_rfl}
open Go.RowKit Go.Lib in
theorem Tryz.strings_Split_shaped (s sep:ByteArray) (w:World) (h:w.ShapedOpen Tryz.prog) (hs:s.size<4294967281) (h1:1≤sep.size):
    Calls Tryz.prog 147 #[.string s,.string sep] w fun e w'=>
      e= .returned (.slice (some ⟨w.heap.size,0,none⟩) (Lib.countB s sep+1) (Lib.countB s sep+1))∧w'=w.alloc (.cells ((Lib.splitB sep 0 (Lib.countB s sep) s).map Value.string).toArray 9):=Any.strings_Split_shaped Tryz.laysM146 s sep w h hs h1
def Tryz.lays264_ren :Go.Shelf.Ren:=⟨fun|264=>220|n=>n,fun|53=>283|46=>197|n=>n,fun|n=>n⟩
theorem Tryz.lays264 :Go.Proofs.Lays.n264 Tryz.prog Tryz.lays264_ren:={
  mixed:=by kernel_rfl
  f264:=Tryz.func220.trans (congrArg some (by kernel_rfl))
  t46:=Tryz.underlying197
  a46:=Tryz.isAgg197
  z46:=Tryz.sizeOf197
  v46:=Tryz.zeroValue197
  t53:=Tryz.underlying283
  a53:=Tryz.isAgg283
  z53:=Tryz.sizeOf283
  v53:=Tryz.zeroValue283}
open Go.RowKit Go.Lib in
theorem Tryz.bits_Mul64 (x y:Nat) (hx:x<18446744073709551616) (hy:y<18446744073709551616) (w:World):
    Calls Tryz.prog 220 #[.int .u64 x,.int .u64 y] w fun e w'=>e= .returned (.tuple #[.int .u64 ((x*y/18446744073709551616:Nat):Int),.int .u64 ((x*y%18446744073709551616:Nat):Int)])∧w'=w:=Any.bits_Mul64 Tryz.lays264 x y hx hy w
end Go.Proofs
