/- DERIVED: -/
import Derived.Test.YtgopfpjinohncaaGreatDoorZzF
import Derived.Test.YtgopfpjinohncaaGreatDoorProg
import Derived.Shelf.Strings.Builder2
import Derived.Shelf.Strings.BuilderK
import Derived.Shelf.Small.Strs
import Derived.Shelf.Strconv.Itoa4
import Derived.Shelf.Strconv.ErrVarParseInt
import Derived.Shelf.Strings.Prefix
import Derived.WalkSpells
import Derived.WalkLawsBesides
import Derived.BigQuiet
import Derived.Handy
import Derived.Deep.Light
import Derived.Deep.AppendLies
import Derived.Deep.WholeRow
import Derived.Deep.MidRow
set_option maxHeartbeats 4000000
set_option maxRecDepth 100000
set_option linter.unusedVariables false
/-
 DERIVED: THE SHELF's CONTRACTS AT THIS DUMP,IN PLAIN WORDS (tools/lay-plain.mjs out of 'TryzShelfCut.lean',which tools/lay-shelf.mjs wrote): THE SAME DECLARATIONS UNDER THE SAME NAMES: 'import','namespace','open','def','theorem' AND NOTHING ELSE: no command of the shelf's: FOR A HAND-IN. Each laying: the table of numbers ('.._ren') and one theorem,a field a fact of the dump's own or the kernel's comparison;each contract: ONE APPLICATION.
-/
namespace Go.Proofs
open Go.Shelf
def Tryz.lays169_ren:Go.Shelf.Ren:=⟨fun | 169=>89 | n=>n,fun | 70=>153 | 9=>9 | 0=>0 | 72=>156 | 37=>154 | 127=>259 | 3=>3 | 5=>5 | n=>n,fun | n=>n⟩
theorem Tryz.lays169:Go.Proofs.Lays.n169 prog Tryz.lays169_ren := {
 mixed:=by kernel_rfl
 f169:=func89.trans (congrArg some (by kernel_rfl))
 t0:=underlying0
 a0:=isAgg0
 z0:=sizeOf0
 v0:=zeroValue0
 t3:=underlying3
 a3:=isAgg3
 z3:=sizeOf3
 v3:=zeroValue3
 t9:=underlying9
 a9:=isAgg9
 z9:=sizeOf9
 v9:=zeroValue9
 t37:=underlying154
 a37:=isAgg154
 z37:=sizeOf154
 v37:=zeroValue154
 t70:=underlying153
 a70:=isAgg153
 z70:=sizeOf153
 v70:=zeroValue153
 t72:=underlying156
 a72:=isAgg156
 z72:=sizeOf156
 v72:=zeroValue156
 t127:=underlying259
 a127:=isAgg259
 z127:=sizeOf259
 v127:=zeroValue259 }
theorem Tryz.Builder_Extra_169:Builder.Extra prog Tryz.lays169_ren := {
 sizeBuilder:=by kernel_rfl
 liesBuilder:=by kernel_rfl
 t5:=underlying5
 a5:=isAgg5
 z5:=sizeOf5
 v5:=zeroValue5
 infoByte:=by kernel_rfl
 cellsByte:=by kernel_rfl
 sizeByte:=by kernel_rfl
 neB5:=by decide }
open Go.RowKit in
theorem Tryz.Builder_String_any (B b:Nat) (l:List UInt8) (w:World) (h:Lib.IsBuilder 156 5 B b (Lib.byteCells l) w) (hBw:B<=w.heap.size) :
 Calls prog 89 #[.pointer (some ⟨b,0,none⟩)] w fun e w'=>e=.returned (.string ⟨l.toArray⟩)/\Below B w w':=Any.Builder_String_any Tryz.lays169 Tryz.Builder_Extra_169 B b l w h hBw
def Tryz.lays106_ren:Go.Shelf.Ren:=⟨fun | 106=>231 | 213=>264 | 265=>290 | n=>n,fun | 9=>9 | 3=>3 | n=>n,fun | n=>n⟩
theorem Tryz.lays106:Go.Proofs.Lays.n106 prog Tryz.lays106_ren := {
 mixed:=by kernel_rfl
 f106:=func231.trans (congrArg some (by kernel_rfl))
 f213:=func264.trans (congrArg some (by kernel_rfl))
 f265:=func290.trans (congrArg some (by kernel_rfl))
 t3:=underlying3
 a3:=isAgg3
 z3:=sizeOf3
 v3:=zeroValue3
 t9:=underlying9
 a9:=isAgg9
 z9:=sizeOf9
 v9:=zeroValue9 }
open Go.RowKit in
theorem Tryz.strings_Compare (a b:ByteArray) (w:World) :
 Calls prog 231 #[.string a,.string b] w fun e w'=>e=.returned (.int .i64 (Lib.compareBytes a.data.toList b.data.toList))/\w'=w:=Any.strings_Compare Tryz.lays106 a b w
def Tryz.laysM173_ren:Go.Shelf.Ren:=⟨fun | 173=>205 | 246=>209 | 283=>253 | 284=>254 | 285=>255 | 286=>256 | 129=>227 | 317=>285 | 318=>286 | 319=>287 | 320=>288 | 337=>312 | 338=>313 | n=>n,fun | 2=>2 | 3=>3 | 9=>9 | 4=>4 | 171=>338 | 0=>0 | 53=>293 | 37=>154 | 5=>5 | 173=>340 | 212=>387 | 51=>309 | 20=>20 | 213=>388 | 46=>262 | 232=>439 | 233=>440 | n=>n,fun | 17=>1 | 18=>3 | 19=>4 | n=>n⟩
theorem Tryz.laysM173:Go.Proofs.LaysM.n173 prog Tryz.laysM173_ren := {
 mixed:=by kernel_rfl
 f129:=func227.trans (congrArg some (by kernel_rfl))
 f173:=func205.trans (congrArg some (by kernel_rfl))
 f246:=func209.trans (congrArg some (by kernel_rfl))
 f283:=func253.trans (congrArg some (by kernel_rfl))
 f284:=func254.trans (congrArg some (by kernel_rfl))
 f285:=func255.trans (congrArg some (by kernel_rfl))
 f286:=func256.trans (congrArg some (by kernel_rfl))
 f317:=func285.trans (congrArg some (by kernel_rfl))
 f318:=func286.trans (congrArg some (by kernel_rfl))
 f319:=func287.trans (congrArg some (by kernel_rfl))
 f320:=func288.trans (congrArg some (by kernel_rfl))
 f337:=func312.trans (congrArg some (by kernel_rfl))
 f338:=func313.trans (congrArg some (by kernel_rfl))
 t0:=underlying0
 a0:=isAgg0
 z0:=sizeOf0
 v0:=zeroValue0
 t2:=underlying2
 a2:=isAgg2
 z2:=sizeOf2
 v2:=zeroValue2
 t3:=underlying3
 a3:=isAgg3
 z3:=sizeOf3
 v3:=zeroValue3
 t4:=underlying4
 a4:=isAgg4
 z4:=sizeOf4
 v4:=zeroValue4
 t5:=underlying5
 a5:=isAgg5
 z5:=sizeOf5
 v5:=zeroValue5
 t9:=underlying9
 a9:=isAgg9
 z9:=sizeOf9
 v9:=zeroValue9
 t20:=underlying20
 a20:=isAgg20
 z20:=sizeOf20
 v20:=zeroValue20
 t37:=underlying154
 a37:=isAgg154
 z37:=sizeOf154
 v37:=zeroValue154
 t46:=underlying262
 a46:=isAgg262
 z46:=sizeOf262
 v46:=zeroValue262
 t51:=underlying309
 a51:=isAgg309
 z51:=sizeOf309
 v51:=zeroValue309
 t53:=underlying293
 a53:=isAgg293
 z53:=sizeOf293
 v53:=zeroValue293
 t171:=underlying338
 a171:=isAgg338
 z171:=sizeOf338
 v171:=zeroValue338
 t173:=underlying340
 a173:=isAgg340
 z173:=sizeOf340
 v173:=zeroValue340
 t212:=underlying387
 a212:=isAgg387
 z212:=sizeOf387
 v212:=zeroValue387
 t213:=underlying388
 a213:=isAgg388
 z213:=sizeOf388
 t232:=underlying439
 a232:=isAgg439
 z232:=sizeOf439
 v232:=zeroValue439
 t233:=underlying440
 a233:=isAgg440
 z233:=sizeOf440
 v233:=zeroValue440
 g17:=by kernel_rfl
 g18:=by kernel_rfl
 g19:=by kernel_rfl
 i0:=by kernel_rfl
 i2:=by kernel_rfl
 i3:=by kernel_rfl
 i4:=by kernel_rfl
 i5:=by kernel_rfl
 i9:=by kernel_rfl
 i20:=by kernel_rfl
 i37:=by kernel_rfl
 i46:=by kernel_rfl
 i51:=by kernel_rfl
 i53:=by kernel_rfl
 i171:=by kernel_rfl
 i173:=by kernel_rfl
 i212:=by kernel_rfl
 i232:=by kernel_rfl
 i233:=by kernel_rfl
 m17:=by kernel_rfl
 m18:=by kernel_rfl
 m19:=by kernel_rfl }
open Go.RowKit Go.Sort Go.Lib in
theorem Tryz.strconv_FormatInt_10 (n:Int) (h0 : -9223372036854775808<=n) (h1:n<=9223372036854775807) (w:World) (htab:Lib.TabIs prog w "internal/strconv.uint64pow10" .u64 Lib.pow10Tab) :
 Calls prog 205 #[.int .i64 n,.int .i64 10] w fun e w'=>e=.returned (.string ⟨(Lib.itoa n).toArray⟩)/\∃ k os,w'=grow (w.drewN k) os:=Any.strconv_FormatInt_10 Tryz.laysM173 n h0 h1 w htab
def Tryz.laysC174_ren:Go.Shelf.Ren:=⟨fun | 174=>317 | 247=>332 | 245=>333 | 287=>337 | 279=>338 | 280=>339 | 281=>340 | 282=>341 | 321=>342 | 322=>343 | 316=>344 | 171=>72 | 205=>345 | 243=>154 | 246=>209 | 283=>253 | 284=>254 | 285=>255 | 286=>256 | 129=>227 | 317=>285 | 318=>286 | 319=>287 | 320=>288 | 337=>312 | 338=>313 | n=>n,fun | 9=>9 | 3=>3 | 2=>2 | 75=>160 | 85=>423 | 4=>4 | 167=>450 | 5=>5 | 53=>293 | 175=>451 | 46=>262 | 168=>453 | 37=>154 | 0=>0 | 210=>458 | 21=>21 | 127=>259 | 145=>462 | 143=>460 | 171=>338 | 173=>340 | 212=>387 | 51=>309 | 20=>20 | 213=>388 | 232=>439 | 233=>440 | 80=>158 | n=>n,fun | 15=>5 | 16=>6 | 17=>1 | 18=>3 | 19=>4 | n=>n⟩
theorem Tryz.laysC174:Go.Proofs.LaysC.n174 prog Tryz.laysC174_ren := {
 mixed:=by kernel_rfl
 f129:=func227.trans (congrArg some (by kernel_rfl))
 f171:=func72.trans (congrArg some (by kernel_rfl))
 f174:=func317.trans (congrArg some (by kernel_rfl))
 f205:=func345.trans (congrArg some (by kernel_rfl))
 f243:=func154.trans (congrArg some (by kernel_rfl))
 f245:=func333.trans (congrArg some (by kernel_rfl))
 f246:=func209.trans (congrArg some (by kernel_rfl))
 f247:=func332.trans (congrArg some (by kernel_rfl))
 f279:=func338.trans (congrArg some (by kernel_rfl))
 f280:=func339.trans (congrArg some (by kernel_rfl))
 f281:=func340.trans (congrArg some (by kernel_rfl))
 f282:=func341.trans (congrArg some (by kernel_rfl))
 f283:=func253.trans (congrArg some (by kernel_rfl))
 f284:=func254.trans (congrArg some (by kernel_rfl))
 f285:=func255.trans (congrArg some (by kernel_rfl))
 f286:=func256.trans (congrArg some (by kernel_rfl))
 f287:=func337.trans (congrArg some (by kernel_rfl))
 f316:=func344.trans (congrArg some (by kernel_rfl))
 f317:=func285.trans (congrArg some (by kernel_rfl))
 f318:=func286.trans (congrArg some (by kernel_rfl))
 f319:=func287.trans (congrArg some (by kernel_rfl))
 f320:=func288.trans (congrArg some (by kernel_rfl))
 f321:=func342.trans (congrArg some (by kernel_rfl))
 f322:=func343.trans (congrArg some (by kernel_rfl))
 f337:=func312.trans (congrArg some (by kernel_rfl))
 f338:=func313.trans (congrArg some (by kernel_rfl))
 t0:=underlying0
 a0:=isAgg0
 z0:=sizeOf0
 v0:=zeroValue0
 t2:=underlying2
 a2:=isAgg2
 z2:=sizeOf2
 v2:=zeroValue2
 t3:=underlying3
 a3:=isAgg3
 z3:=sizeOf3
 v3:=zeroValue3
 t4:=underlying4
 a4:=isAgg4
 z4:=sizeOf4
 v4:=zeroValue4
 t5:=underlying5
 a5:=isAgg5
 z5:=sizeOf5
 v5:=zeroValue5
 t9:=underlying9
 a9:=isAgg9
 z9:=sizeOf9
 v9:=zeroValue9
 t20:=underlying20
 a20:=isAgg20
 z20:=sizeOf20
 v20:=zeroValue20
 t21:=underlying21
 a21:=isAgg21
 z21:=sizeOf21
 v21:=zeroValue21
 t37:=underlying154
 a37:=isAgg154
 z37:=sizeOf154
 v37:=zeroValue154
 t46:=underlying262
 a46:=isAgg262
 z46:=sizeOf262
 v46:=zeroValue262
 t51:=underlying309
 a51:=isAgg309
 z51:=sizeOf309
 v51:=zeroValue309
 t53:=underlying293
 a53:=isAgg293
 z53:=sizeOf293
 v53:=zeroValue293
 t75:=underlying160
 a75:=isAgg160
 z75:=sizeOf160
 v75:=zeroValue160
 t85:=underlying423
 a85:=isAgg423
 z85:=sizeOf423
 v85:=zeroValue423
 t127:=underlying259
 a127:=isAgg259
 z127:=sizeOf259
 v127:=zeroValue259
 t143:=underlying460
 a143:=isAgg460
 z143:=sizeOf460
 v143:=zeroValue460
 t145:=underlying462
 a145:=isAgg462
 z145:=sizeOf462
 v145:=zeroValue462
 t167:=underlying450
 a167:=isAgg450
 z167:=sizeOf450
 v167:=zeroValue450
 t168:=underlying453
 a168:=isAgg453
 z168:=sizeOf453
 v168:=zeroValue453
 t171:=underlying338
 a171:=isAgg338
 z171:=sizeOf338
 v171:=zeroValue338
 t173:=underlying340
 a173:=isAgg340
 z173:=sizeOf340
 v173:=zeroValue340
 t175:=underlying451
 a175:=isAgg451
 z175:=sizeOf451
 v175:=zeroValue451
 t210:=underlying458
 a210:=isAgg458
 z210:=sizeOf458
 v210:=zeroValue458
 t212:=underlying387
 a212:=isAgg387
 z212:=sizeOf387
 v212:=zeroValue387
 t213:=underlying388
 a213:=isAgg388
 z213:=sizeOf388
 t232:=underlying439
 a232:=isAgg439
 z232:=sizeOf439
 v232:=zeroValue439
 t233:=underlying440
 a233:=isAgg440
 z233:=sizeOf440
 v233:=zeroValue440
 g15:=by kernel_rfl
 g16:=by kernel_rfl
 g17:=by kernel_rfl
 g18:=by kernel_rfl
 g19:=by kernel_rfl
 t80:=underlying158
 a80:=isAgg158
 z80:=sizeOf158
 v80:=zeroValue158
 i0:=by kernel_rfl
 i2:=by kernel_rfl
 i3:=by kernel_rfl
 i4:=by kernel_rfl
 i5:=by kernel_rfl
 i9:=by kernel_rfl
 i20:=by kernel_rfl
 i21:=by kernel_rfl
 i37:=by kernel_rfl
 i46:=by kernel_rfl
 i51:=by kernel_rfl
 i53:=by kernel_rfl
 i75:=by kernel_rfl
 i80:=by kernel_rfl
 i85:=by kernel_rfl
 i127:=by kernel_rfl
 i143:=by kernel_rfl
 i145:=by kernel_rfl
 i167:=by kernel_rfl
 i168:=by kernel_rfl
 i171:=by kernel_rfl
 i173:=by kernel_rfl
 i175:=by kernel_rfl
 i210:=by kernel_rfl
 i212:=by kernel_rfl
 i232:=by kernel_rfl
 i233:=by kernel_rfl
 m15:=by kernel_rfl
 m16:=by kernel_rfl
 m17:=by kernel_rfl
 m18:=by kernel_rfl
 m19:=by kernel_rfl
 c0:=by kernel_rfl
 c2:=by kernel_rfl
 c3:=by kernel_rfl
 c4:=by kernel_rfl
 c5:=by kernel_rfl
 c9:=by kernel_rfl
 c20:=by kernel_rfl
 c21:=by kernel_rfl
 c37:=by kernel_rfl
 c46:=by kernel_rfl
 c51:=by kernel_rfl
 c53:=by kernel_rfl
 c75:=by kernel_rfl
 c80:=by kernel_rfl
 c85:=by kernel_rfl
 c127:=by kernel_rfl
 c143:=by kernel_rfl
 c145:=by kernel_rfl
 c167:=by kernel_rfl
 c168:=by kernel_rfl
 c171:=by kernel_rfl
 c173:=by kernel_rfl
 c175:=by kernel_rfl
 c210:=by kernel_rfl
 c212:=by kernel_rfl
 c213:=by kernel_rfl
 c232:=by kernel_rfl
 c233:=by kernel_rfl }
open Go.RowKit in
theorem Tryz.strconv_ParseInt_10_at64_ok (s:ByteArray) (hmax:s.size<=9223372036854775806) (v:Int) (h:Lib.parseIntB 64 s.data.toList=.ok v) (w:World) :
 Calls prog 317 #[.string s,.int .i64 10,.int .i64 64] w fun e w'=>e=.returned (.tuple #[.int .i64 v,.nilIface])/\(w'=w∨∃ t,w'=Lib.bytesWorld w 5 t):=Any.strconv_ParseInt_10_at64_ok Tryz.laysC174 s hmax v h w
open Go.RowKit in
theorem Tryz.strconv_ParseInt_10_at64_range_var (s:ByteArray) (hlim:s.size<=281474976710656) (h:Lib.parseIntB 64 s.data.toList=.range) (tp:TypeId) (p:Value) (w:World) (hvar:w.var? prog "strconv.ErrRange" = some #[.iface tp p]) :
 Calls prog 317 #[.string s,.int .i64 10,.int .i64 64] w fun e w'=>∃ N,e=.returned (.tuple #[.int .i64 (Lib.intSat 64 s.data.toList),.iface 453 (.pointer (some ⟨N,0,none⟩))])/\w.heap.size<=N/\w'.heap[N]? = some (.cells #[.string ⟨#[80,97,114,115,101,73,110,116]⟩,.string s,.iface tp p] 458 (0,0))/\Below w.heap.size w w':=Any.strconv_ParseInt_10_at64_range_var Tryz.laysC174 s hlim h tp p w hvar
def Tryz.lays99_ren:Go.Shelf.Ren:=⟨fun | 99=>291 | 206=>314 | n=>n,fun | 9=>9 | 4=>4 | 3=>3 | n=>n,fun | n=>n⟩
theorem Tryz.lays99:Go.Proofs.Lays.n99 prog Tryz.lays99_ren := {
 mixed:=by kernel_rfl
 f99:=func291.trans (congrArg some (by kernel_rfl))
 f206:=func314.trans (congrArg some (by kernel_rfl))
 t3:=underlying3
 a3:=isAgg3
 z3:=sizeOf3
 v3:=zeroValue3
 t4:=underlying4
 a4:=isAgg4
 z4:=sizeOf4
 v4:=zeroValue4
 t9:=underlying9
 a9:=isAgg9
 z9:=sizeOf9
 v9:=zeroValue9 }
open Go.RowKit Go.Lib in
theorem Tryz.strings_HasPrefix (s p:ByteArray) (w:World) :
 Calls prog 291 #[.string s,.string p] w fun e w'=>e=.returned (.bool (Lib.hasPrefix s.data.toList p.data.toList))/\w'=w:=Any.strings_HasPrefix Tryz.lays99 s p w
def Tryz.lays101_ren:Go.Shelf.Ren:=⟨fun | 101=>316 | 208=>331 | 206=>314 | n=>n,fun | 9=>9 | 4=>4 | 3=>3 | n=>n,fun | n=>n⟩
theorem Tryz.lays101:Go.Proofs.Lays.n101 prog Tryz.lays101_ren := {
 mixed:=by kernel_rfl
 f101:=func316.trans (congrArg some (by kernel_rfl))
 f206:=func314.trans (congrArg some (by kernel_rfl))
 f208:=func331.trans (congrArg some (by kernel_rfl))
 t3:=underlying3
 a3:=isAgg3
 z3:=sizeOf3
 v3:=zeroValue3
 t4:=underlying4
 a4:=isAgg4
 z4:=sizeOf4
 v4:=zeroValue4
 t9:=underlying9
 a9:=isAgg9
 z9:=sizeOf9
 v9:=zeroValue9 }
open Go.RowKit Go.Lib in
theorem Tryz.strings_TrimPrefix (s p:ByteArray) (w:World) :
 Calls prog 316 #[.string s,.string p] w fun e w'=>e=.returned (.string ⟨(Lib.trimPrefix s.data.toList p.data.toList).toArray⟩)/\w'=w:=Any.strings_TrimPrefix Tryz.lays101 s p w
end Go.Proofs
namespace Go.Proofs.YtgopfpjinohncaaGreatDoor
open Go.Proofs.Tryz
open Go.RowKit
structure aq (F:Nat->Prop) (w w':World):Prop where
 os:w'.os=w.os
 tape:w'.tape=w.tape
 output:w'.output=w.output
 size:w.heap.size<=w'.heap.size
 block:∀ k,k<w.heap.size->¬ F k->w'.heap[k]? = w.heap[k]?
theorem aq.refl (F:Nat->Prop) (w:World):aq F w w:=⟨rfl,rfl,rfl,FA,fun _ _ _=>rfl⟩
theorem aq.trans {F G:Nat->Prop} {a b c:World} (h:aq F a b) (k:aq G b c) (hG:∀ i,i<a.heap.size->G i->F i):aq F a c :=
 ⟨k.os.trans h.os,k.tape.trans h.tape,k.output.trans h.output,Nat.le_trans h.size k.size,
  fun i hi hn=>(k.block i (Nat.lt_of_lt_of_le hi h.size) (fun g=>hn (hG i hi g))).trans (h.block i hi hn)⟩
theorem aq.mono {F G:Nat->Prop} {a b:World} (h:aq F a b) (hG:∀ i,i<a.heap.size->F i->G i):aq G a b :=
 ⟨h.os,h.tape,h.output,h.size,fun i hi hn=>h.block i hi (fun f=>hn (hG i hi f))⟩
theorem aq.drew {F:Nat->Prop} {a w:World} (h:aq F a w):aq F a w.drew:=⟨h.os,h.tape,h.output,h.size,h.block⟩
theorem aq.drewN {F:Nat->Prop} {a w:World} (h:aq F a w) (n:Nat):aq F a (w.drewN n):=⟨h.os,h.tape,h.output,h.size,h.block⟩
theorem aq.alloc {F:Nat->Prop} {a w:World} (h:aq F a w) (o:Obj):aq F a (w.alloc o) :=
 ⟨h.os,h.tape,h.output,Nat.le_trans h.size (by simp),fun i hi hn=>(Below.heap_alloc w o i (Nat.lt_of_lt_of_le hi h.size)).trans (h.block i hi hn)⟩
theorem aq.setCell {F:Nat->Prop} {a w:World} (h:aq F a w) {p:Addr} (hp:p.block<a.heap.size->F p.block) (u:Value):aq F a (w.setCell p u) :=
 ⟨h.os,h.tape,h.output,Nat.le_trans h.size (by simp [World.setCell]),fun i hi hn =>
  (Below.heap_setCell w p u i (fun e=>hn (by subst e;exact hp hi))).trans (h.block i hi hn)⟩
theorem aq.grown {F:Nat->Prop} {a w w':World} {row:Option Nat} (h:aq F a w) (hg:w.grownBy w' row) (hr:∀ k,row=some k->k<a.heap.size->F k):aq F a w' :=
 ⟨hg.os.trans h.os,hg.tape.trans h.tape,hg.output.trans h.output,Nat.le_trans h.size hg.size,fun i hi hn =>
  (hg.block i (Nat.lt_of_lt_of_le hi h.size) (fun e=>hn (hr i e.symm hi))).trans (h.block i hi hn)⟩
theorem aq.below {F:Nat->Prop} {B:Nat} {w w':World} (h:aq F w w') (hB:B<=w.heap.size) (hF:∀ i,F i->B<=i):Below B w w' :=
 ⟨h.os,h.tape,h.output,h.size,fun i hi=>h.block i (by omega) (fun f=>by have:=hF i f;omega)⟩
theorem aq.ofBelow {F:Nat->Prop} {w w':World} (h:Below w.heap.size w w'):aq F w w' :=
 ⟨h.os,h.tape,h.output,h.size,fun i hi _=>h.block i hi⟩
theorem aq.cell {F:Nat->Prop} {w w':World} (h:aq F w w') {p:Addr} (hp:p.block<w.heap.size) (hn:¬ F p.block):w'.cell? p=w.cell? p :=
 World.cell?_of_block (h.block p.block hp hn)
theorem aq.frozen {F:Nat->Prop} {w w':World} (h:aq F w w') {p:Addr} (hp:p.block<w.heap.size) (hn:¬ F p.block):w'.frozen? p=w.frozen? p :=
 World.frozen?_of_block (h.block p.block hp hn)
theorem aq.ownsRow {F:Nat->Prop} {w w':World} (h:aq F w w') {base:Nat} {e:TypeId} {size:Nat} {v:Value} {n:Nat} {xs:List Value}
 (ho:w.ownsRow base e size v n xs) (hn:∀ k,v.ownBlock=some k->¬ F k):w'.ownsRow base e size v n xs:=by
 refine⟨ho.1,?_⟩
 rcases ho.2 with h2 | ⟨g,cap,cur,rfl,hb,hg,rest⟩
 ·exact .inl h2
 ·exact .inr ⟨g,cap,cur,rfl,hb,(h.block g (Array.getElem?_eq_some_iff.1 hg).1 (hn g rfl)).trans hg,rest⟩
theorem dC {B:Nat} {a w:World} (h:Below B a w) (n:Nat):Below B a (w.drewN n):=⟨h.os,h.tape,h.output,h.size,h.block⟩
theorem ay {B:Nat} {a w:World} (h:Below B a w):Below B a w.drew:=⟨h.os,h.tape,h.output,h.size,h.block⟩
theorem ae {w w':World} (h:Below w.heap.size w w') (o:Obj):Below w.heap.size w (w'.alloc o):=h.alloc h.size o
theorem dZ {w W W':World} (h:Below w.heap.size w W) (k:Below W.heap.size W W'):Below w.heap.size w W':=h.trans (k.mono h.size)
def af (w:World) (g:Nat) (t:TypeId) (cs:Array Value):Prop:=w.heap[g]? = some (.cells cs t (0,0))
section
variable {w w' : World} {g : Nat} {t : TypeId} {cs : Array Value}
theorem af.lt (h:af w g t cs):g<w.heap.size:=by
 rcases Nat.lt_or_ge g w.heap.size with hlt | hge
 ·exact hlt
 ·unfold af at h;rw[Array.getElem?_eq_none hge] at h;cases h
theorem af.cell (h:af w g t cs) (i:Nat):w.cell? ⟨g,i,none⟩=cs[i]? := cell_of_row w g i cs t (0,0) h
theorem af.frozen (h:af w g t cs) (i:Nat):w.frozen? ⟨g,i,none⟩=false:=by
 unfold af at h
 simp [World.frozen?,h]
theorem af.new (w:World) (t:TypeId) (cs:Array Value):af (w.alloc (.cells cs t)) w.heap.size t cs:=heap_alloc_new w _
theorem af.drew (h:af w g t cs):af w.drew g t cs:=h
theorem af.drewN (h:af w g t cs) (n:Nat):af (w.drewN n) g t cs:=h
theorem af.alloc (h:af w g t cs) (o:Obj):af (w.alloc o) g t cs:=(Below.heap_alloc w o g h.lt).trans h
theorem af.set_ (h:af w g t cs) (i:Nat) (u:Value):af (w.setCell ⟨g,i,none⟩ u) g t (cs.setIfInBounds i u):=by
 unfold af at h ⊢
 simp [World.setCell,Array.getElem?_modify,h]
theorem af.far (h:af w g t cs) {p:Addr} (hp:g≠p.block) (u:Value):af (w.setCell p u) g t cs:=(Below.heap_setCell w p u g hp).trans h
theorem af.below {B:Nat} (h:af w g t cs) (hb:Below B w w') (hg:g<B):af w' g t cs:=(hb.block g hg).trans h
theorem af.mod {F:Nat->Prop} (h:af w g t cs) (hb:aq F w w') (hg:¬ F g):af w' g t cs:=(hb.block g h.lt hg).trans h
theorem af.grown {row:Option Nat} (h:af w g t cs) (hb:w.grownBy w' row) (hg:some g≠row):af w' g t cs:=(hb.block g h.lt hg).trans h
theorem af.ne_ {g':Nat} {t':TypeId} {cs':Array Value} (h:af w g t cs) (h':af w g' t' cs') (hne:t≠t'):g≠g':=by
 rintro rfl
 unfold af at h h'
 rw[h] at h'
 injection h' with h'
 injection h' with _ ht
 exact hne ht
theorem aE {base:Nat} {e:TypeId} {size n:Nat} {v:Value} {xs:List Value} (h:w.ownsRow base e size v n xs) (hg:af w g t cs) (hne:e≠t):v.ownBlock≠some g:=by
 rcases h.2 with ⟨rfl,_⟩ | ⟨g',cap,cur,rfl,_,hh,_⟩
 ·simp [Value.ownBlock]
 ·intro he
  have:g'=g:=by simpa [Value.ownBlock] using he
  subst this
  exact af.ne_ (t:=e) hh hg hne rfl
theorem wv {base base':Nat} {e e':TypeId} {size size' n n':Nat} {v v':Value} {xs xs':List Value} (h:w.ownsRow base e size v n xs) (h':w.ownsRow base' e' size' v' n' xs') (hne:e≠e') {k:Nat} (hk:v.ownBlock=some k):v'.ownBlock≠some k:=by
 rcases h.2 with ⟨rfl,_⟩ | ⟨g',cap,cur,rfl,_,hh,_⟩
 ·simp [Value.ownBlock] at hk
 ·simp [Value.ownBlock] at hk
  subst hk
  exact aE h' hh (fun e=>hne e.symm)
end
def au (c:Int):Bool:=decide (48<=c/\c<=57)
theorem bh (c:Int) (w:World):Calls prog 293 #[.int .u8 c] w fun e w'=>e=.returned (.bool (au c))/\w=w':=by
 by_cases h:48<=c<;>by_cases h2:c<=57
 all_goals
  have e:au c=decide (48<=c/\c<=57):=rfl
  simp only[h,h2] at e
  have HE:=Fx e
  clear e
  go_enter func293,ntmps293
  go_wp2
  go_ret
  exact⟨by rw[HE.out];rfl,rfl⟩
def dY (c:Int):Int:=if 48<=c/\c<=57 then c - 48 else if 97<=c/\c<=102 then c - 87 else if 65<=c/\c<=70 then c - 55 else -1
theorem mH (c:Int) : -1<=dY c/\dY c<=15:=by unfold dY;split<;>(try split)<;>(try split)<;>omega
theorem CC (c:Int) (w:World):Calls prog 330 #[.int .u8 c] w fun e w'=>e=.returned (.int .i64 (dY c))/\w=w':=by
 by_cases h1:48<=c/\c<=57
 ·obtain⟨h1,h2⟩:=h1
  have e:dY c=c - 48:=by unfold dY;rw[if_pos ⟨h1,h2⟩]
  have HE:=Fx e
  have hd:au c=true:=by simp [au,h1,h2]
  clear e
  go_enter func330,ntmps330
  go_wp2_with (go_at_call 293;refine (bh _ _).mono ?_;rintro e w' ⟨rfl,rfl⟩)
  go_ret
  exact⟨by rw[HE.out];rfl,rfl⟩
 ·have hd:au c=false:=by simp only[au,decide_eq_false_iff_not];exact h1
  by_cases h2:97<=c/\c<=102
  ·have e:dY c=c - 87:=by unfold dY;rw[if_neg h1,if_pos h2]
   have HE:=Fx e
   clear e h1
   obtain⟨h2,h3⟩:=h2
   go_enter func330,ntmps330
   go_wp2_with (go_at_call 293;refine (bh _ _).mono ?_;rintro e w' ⟨rfl,rfl⟩)
   go_ret
   exact⟨by rw[HE.out];exact congrArg (fun x=>Ending.returned (.int .i64 x)) (by omega),rfl⟩
  ·by_cases h3:65<=c/\c<=70
   ·have e:dY c=c - 55:=by unfold dY;rw[if_neg h1,if_neg h2,if_pos h3]
    have HE:=Fx e
    clear e h1 h2
    obtain⟨h3,h4⟩:=h3
    go_enter func330,ntmps330
    go_wp2_with (go_at_call 293;refine (bh _ _).mono ?_;rintro e w' ⟨rfl,rfl⟩)
    go_ret
    exact⟨by rw[HE.out];exact congrArg (fun x=>Ending.returned (.int .i64 x)) (by omega),rfl⟩
   ·have e:dY c = -1:=by unfold dY;rw[if_neg h1,if_neg h2,if_neg h3]
    have HE:=Fx e
    clear e h1
    by_cases g1:97<=c<;>by_cases g2:c<=102<;>by_cases g3:65<=c<;>by_cases g4:c<=70
    all_goals first
     | (exfalso;first | exact h2 ⟨g1,g2⟩ | exact h3 ⟨g3,g4⟩ | omega)
     | (clear h2 h3
        go_enter func330,ntmps330
        go_wp2_with (go_at_call 293;refine (bh _ _).mono ?_;rintro e w' ⟨rfl,rfl⟩)
        go_ret
        exact⟨by rw[HE.out];rfl,rfl⟩)
def bt (l:List UInt8) (k:Nat):Int:=(l.getD k 0).toNat
theorem wP (l:List UInt8) (k:Nat):0<=bt l k/\bt l k<=255:=by
 unfold bt;have:=(l.getD k 0).toNat_lt;omega
theorem bJ (s:ByteArray) (k:Nat) (h:k<s.size):((s[k]'h).toNat:Int)=bt s.data.toList k:=by
 unfold bt
 have h':k<s.data.size:=h
 have e:s.data.toList.getD k 0=s[k]'h:=by
  rw[List.getD_eq_getElem?_getD,Array.getElem?_toList,Array.getElem?_eq_getElem h']
  rfl
 rw[e]
def aC (l:List UInt8):Int × Int :=
 if bt l 0≠92 then (if bt l 0<32 then (0,0) else if 126<bt l 0 then (0,0) else (bt l 0,1))
 else if (l.length:Int)<2 then (0,0)
 else if bt l 1=34∨bt l 1=92 then (bt l 1,2)
 else if bt l 1=110 then (10,2)
 else if bt l 1=116 then (9,2)
 else if bt l 1=120 then
  if (l.length:Int)<4 then (0,0)
  else if dY (bt l 2)<0 then (0,0) else if dY (bt l 3)<0 then (0,0)
  else (dY (bt l 2) * 16+dY (bt l 3),4)
 else (0,0)
theorem Fd:∀ h l:Fin 16,bits BinOp.or IntKind.i64 ((h.val:Int) * 16) (l.val:Int)=(h.val:Int) * 16+(l.val:Int):=by decide +kernel
theorem Ej (h l:Int) (h0:0<=h) (h1:h<=15) (l0:0<=l) (l1:l<=15):bits BinOp.or IntKind.i64 (h * 16) l % 256=h * 16+l:=by
 have e:=Fd ⟨h.toNat,by omega⟩ ⟨l.toNat,by omega⟩
 simp only[Int.toNat_of_nonneg h0,Int.toNat_of_nonneg l0] at e
 rw[e];omega
theorem qQ (s:ByteArray) (w:World) (h0:0<s.size) :
 Calls prog 315 #[.string s] w fun e w'=>e=.returned (.tuple #[.int .u8 (aC s.data.toList).1,.int .i64 (aC s.data.toList).2])/\Below w.heap.size w w':=by
 have hl:s.data.toList.length=s.size:=rfl
 have e0:=bJ s 0 h0
 have e1:∀ h:1<s.size,((s[1]'h).toNat:Int)=bt s.data.toList 1:=bJ s 1
 have e2:∀ h:2<s.size,((s[2]'h).toNat:Int)=bt s.data.toList 2:=bJ s 2
 have e3:∀ h:3<s.size,((s[3]'h).toNat:Int)=bt s.data.toList 3:=bJ s 3
 have HL:=Fx hl
 clear hl
 generalize hll:s.data.toList=l at *
 clear hll
 by_cases hx:4<=(s.size:Int)/\bt l 0=92/\bt l 1=120
 ·obtain⟨hx1,hx2,hx3⟩:=hx
  have b2:=mH (bt l 2)
  have b3:=mH (bt l 3)
  have hs2:(2:Int)<s.size:=by omega
  have hs3:(3:Int)<s.size:=by omega
  have q1:(bt l 0 != 92)=false:=by simp [hx2]
  have q2:(bt l 1 == 34)=false:=by simp [hx3]
  have q3:(bt l 1 == 92)=false:=by simp [hx3]
  have q4:(bt l 1 == 110)=false:=by simp [hx3]
  have q5:(bt l 1 == 116)=false:=by simp [hx3]
  have q6:(bt l 1 == 120)=true:=by simp [hx3]
  have HX:aC l=if dY (bt l 2)<0 then (0,0) else if dY (bt l 3)<0 then (0,0) else (dY (bt l 2) * 16+dY (bt l 3),4):=by
   have:=HL.out
   simp only[aC,hx2,hx3,this]
   rw[if_neg (by omega),if_neg (by omega),if_neg (by omega),if_neg (by omega),if_neg (by omega),if_pos trivial,if_neg (by omega)]
  have HZ:=Fx HX
  clear HX hx2 hx3
  go_enter func315,ntmps315
  go_wp2_with fail
  go_quiet ((go_at_call 330;exact Calls.quiet_of_same ((CC _ _).mono fun _ _ h=>⟨h.1,h.2.symm⟩)))
  go_wp2_with fail
  all_goals
   go_ret2
   refine⟨congrArg Ending.returned ?_,dC Fy _⟩
   go_light
   have hz:=HZ.out
   rw[hz]
  ·rw[if_neg (by omega),if_pos (by omega)];rfl
  ·rw[if_neg (by omega),if_neg (by omega)]
   have:=Ej (dY (bt l 2)) (dY (bt l 3)) (by omega) (by omega) (by omega) (by omega)
   simp [this]
  ·rw[if_pos (by omega)];rfl
 ·have HX:=Fx hx
  clear hx
  go_enter func315,ntmps315
  go_wp2_with fail
  all_goals first
   | (exfalso;go_light;have hx:=HX.out;simp_all;done)
   | (go_ret2;refine⟨congrArg Ending.returned ?_,Below.refl _ _⟩;go_light;have hl:=HL.out;simp only[aC,hl];simp_all;done)
   | (go_ret2;refine⟨congrArg Ending.returned ?_,Below.refl _ _⟩;go_light;have hl:=HL.out;simp only[aC,hl];simp_all;omega)
   | (go_ret2;refine⟨congrArg Ending.returned ?_,Below.refl _ _⟩;go_light;have hl:=HL.out;simp only[aC,hl];simp_all;repeat (split<;>simp_all<;>try omega))
end Go.Proofs.YtgopfpjinohncaaGreatDoor
namespace Go.Proofs.YtgopfpjinohncaaGreatDoor
open Go.Proofs.Tryz
open Go.RowKit
theorem qB {P:Program} {w:World} {B e src dst:Nat} {v:Value} {n:Nat} {l:List UInt8} (hs:P.underlying src=some (.slice e)) (he:P.underlying e=some (.int .u8)) (hd:P.underlying dst=some .string)
 (h:w.ownsRow B e 1 v n (Lib.byteCells l)):(convert src dst v).run P w=.ok (.string ⟨l.toArray⟩) w:=by
 rcases h.2 with ⟨rfl,h0⟩ | ⟨g,cap,cur,rfl,_⟩
 ·have h1:=h.1
  have:l=[]:=by
   have:=Lib.byteCells_length l
   apply List.eq_nil_of_length_eq_zero
   omega
  subst this
  rw[run_convert_bytes_string w src dst e none 0 0 hs he hd]
  rfl
 ·rw[run_convert_bytes_string w src dst e _ _ _ hs he hd]
  have hl:(Lib.byteCells l).length=n:=by simpa using h.1
  have hc:=run_loadCells_list (P:=P) w ⟨g,0,none⟩ (Lib.byteCells l) (h.cells rfl)
  rw[hl] at hc
  have e:Lib.byteCells l=(l.map fun b=>(b.toNat:Int)).map (Value.int .u8):=by simp [Lib.byteCells]
  rw[e] at hc
  rw[run_bytesToString w ⟨g,0,none⟩ n cap _ hc]
  congr 2
  have:∀ (l:List UInt8) (a:ByteArray),(l.map fun b=>(b.toNat:Int)).foldl (fun r (n:Int)=>r.push (UInt8.ofNat n.toNat)) a=⟨(a.data.toList++l).toArray⟩:=by
   intro l
   induction l with
   | nil=>intro a;simp
   | cons x l ih =>
     intro a
     simp only[List.map_cons,List.foldl_cons]
     rw[ih]
     simp [ByteArray.push]
  rw[this]
  simp
theorem kJ (l:List UInt8) (hl:l≠[]):(0<=(aC l).1/\(aC l).1<=255)/\0<=(aC l).2/\(aC l).2<=4/\(aC l).2.toNat<=l.length:=by
 have h0:=wP l 0
 have h1:=wP l 1
 have h2:=mH (bt l 2)
 have h3:=mH (bt l 3)
 have hlen:1<=l.length:=List.length_pos_iff.2 hl
 unfold aC
 repeat' split
 all_goals (simp only[];omega)
def aL (l:List UInt8):Option (List UInt8 × Nat) :=
 if h:l=[] then none
 else if bt l 0=34 then some ([],0)
 else if hn:(aC l).2=0 then none
 else match aL (l.drop (aC l).2.toNat) with
  | none=>none
  | some (t,n)=>some (UInt8.ofNat (aC l).1.toNat::t,n+(aC l).2.toNat)
termination_by l.length
decreasing_by
 have hb:=kJ l h
 have hlen:1<=l.length:=List.length_pos_iff.2 h
 rw[List.length_drop]
 omega
theorem dV:aL []=none:=by rw[aL];simp
theorem cx {l:List UInt8} (h:l≠[]) (hq:bt l 0=34):aL l=some ([],0):=by rw[aL,dif_neg h,if_pos hq]
theorem gR {l:List UInt8} (h:l≠[]) (hq:bt l 0≠34) (hn:(aC l).2=0):aL l=none:=by rw[aL,dif_neg h,if_neg hq,dif_pos hn]
theorem dA {l:List UInt8} (h:l≠[]) (hq:bt l 0≠34) (hn:(aC l).2≠0) :
 aL l=(aL (l.drop (aC l).2.toNat)).map fun p=>(UInt8.ofNat (aC l).1.toNat::p.1,p.2+(aC l).2.toNat):=by
 conv=>lhs;rw[aL,dif_neg h,if_neg hq,dif_neg hn]
 cases aL (l.drop (aC l).2.toNat)<;>rfl
structure xI where
 k:Int
 n:Int
 t:List UInt8
 stop:Int
 e:Int
def xI.v (r:xI):Value:=.tuple #[.agg #[.int .i64 r.k,.int .i64 r.n,.string ⟨r.t.toArray⟩],.int .i64 r.stop,.int .i64 r.e]
def bad (e:Int):xI:=⟨0,0,[],0,e⟩
def df (l:List UInt8) (at_:Int):xI :=
 match aL l with
 | none=>bad 11
 | some (t,n)=>if 64<t.length then bad 13 else ⟨2,0,t,at_+n+1,0⟩
def fS (l:List UInt8) (i k:Nat) (acc:List UInt8):Prop :=
 aL (l.drop i)=(aL (l.drop k)).map fun p=>(acc++p.1,p.2+(k - i))
theorem qh (l:List UInt8) (i:Nat):fS l i i []:=by
 unfold fS
 cases aL (l.drop i) with
 | none=>rfl
 | some p=>simp
theorem eR {l:List UInt8} {k:Nat} (h:k<l.length):l.drop k≠[]:=by simp;omega
theorem eK (l:List UInt8) (k j:Nat):bt (l.drop k) j=bt l (k+j):=by
 simp [bt,List.getD]
theorem sS {l:List UInt8} {i k:Nat} {acc:List UInt8} (h:fS l i k acc) (hik:i<=k) (hk:k<l.length) (hq:bt l k≠34) (hn:(aC (l.drop k)).2≠0) :
 fS l i (k+(aC (l.drop k)).2.toNat) (acc++[UInt8.ofNat (aC (l.drop k)).1.toNat]):=by
 unfold fS at *
 rw[h,dA (eR hk) (by rw[eK];exact hq) hn,List.drop_drop]
 cases aL (l.drop (k+(aC (l.drop k)).2.toNat)) with
 | none=>rfl
 | some p =>
   simp only[Option.map_some,List.append_assoc,List.singleton_append,Option.some.injEq,Prod.mk.injEq,true_and]
   omega
theorem yh {l:List UInt8} {i k:Nat} {acc:List UInt8} (h:fS l i k acc) (hk:k<l.length) (hq:bt l k≠34) (hn:(aC (l.drop k)).2=0):df (l.drop i) i=bad 11:=by
 unfold df
 rw[h,gR (eR hk) (by rw[eK];exact hq) hn]
 rfl
theorem zm {l:List UInt8} {i k:Nat} {acc:List UInt8} (h:fS l i k acc) (hk:k=l.length):df (l.drop i) i=bad 11:=by
 subst hk
 unfold df
 rw[h,List.drop_of_length_le FA,dV]
 rfl
theorem ws {l:List UInt8} {i k:Nat} {acc:List UInt8} (h:fS l i k acc) (hk:k<l.length) (hq:bt l k=34) (hl:64<acc.length):df (l.drop i) i=bad 13:=by
 unfold df
 rw[h,cx (eR hk) (by rw[eK];exact hq)]
 simp [hl]
theorem ve {l:List UInt8} {i k:Nat} {acc:List UInt8} (h:fS l i k acc) (hik:i<=k) (hk:k<l.length) (hq:bt l k=34) (hl:acc.length<=64):df (l.drop i) i=⟨2,0,acc,k+1,0⟩:=by
 unfold df
 rw[h,cx (eR hk) (by rw[eK];exact hq)]
 simp only[Option.map_some,List.append_nil,Nat.zero_add]
 rw[if_neg (by omega)]
 congr 1
 omega
theorem uV (acc:List UInt8) (c:Int) (h0:0<=c) (h1:c<=255):Lib.byteCells (acc++[UInt8.ofNat c.toNat])=Lib.byteCells acc++[.int .u8 c]:=by
 have:((UInt8.ofNat c.toNat).toNat:Int)=c:=by
  rw[UInt8.toNat_ofNat']
  omega
 unfold Lib.byteCells
 rw[List.map_append,List.map_cons,List.map_nil,this]
theorem Tryz.infoByte:(prog.info? 5).map (fun i=>(i.zero,i.size,i.bytes))=some (some (.int .u8 0),1,1):=by kernel_rfl
theorem gL (s:ByteArray) (k:Nat):(s.extract k s.size).data.toList=s.data.toList.drop k:=by
 rw[Lib.extract_data]
 apply List.take_of_length_le
 rw[List.length_drop]
 exact Nat.le_refl _
theorem tV (s:ByteArray) (k:Nat) (w:World) (h:k<s.size) :
 Calls prog 315 #[.string (s.extract k s.size)] w fun e w'=>e=.returned (.tuple #[.int .u8 (aC (s.data.toList.drop k)).1,.int .i64 (aC (s.data.toList.drop k)).2])/\Below w.heap.size w w':=by
 have:=qQ (s.extract k s.size) w (by rw[Lib.size_eq,gL,List.length_drop,<-Lib.size_eq];omega)
 rw[gL] at this
 exact this
theorem cW {w wr:World} (h:Below w.heap.size w wr) (a b c:Value):Below w.heap.size w (((wr.setCell ⟨w.heap.size,0,none⟩ a).setCell ⟨w.heap.size,1,none⟩ b).setCell ⟨w.heap.size,2,none⟩ c) :=
 ((h.setCell (p:=⟨w.heap.size,0,none⟩) FA a).setCell (p:=⟨w.heap.size,1,none⟩) FA b).setCell (p:=⟨w.heap.size,2,none⟩) FA c
theorem ru (s:ByteArray) (i:Nat) (w:World) (hi:i<=s.size) (hs:s.size<=i+140737488355328) (hs2:s.size<=281474976710656) :
 Calls prog 292 #[.string s,.int .i64 i] w fun e w'=>e=.returned (df (s.data.toList.drop i) i).v/\Below w.heap.size w w':=by
 obtain⟨i0,hi0,hz0,hz1,hz2⟩:=info_parts Tryz.infoByte
 have hsl:s.data.toList.length=s.size:=rfl
 have HSL:=Fx hsl
 clear hsl
 generalize hL:s.data.toList=l at *
 have HL:=Fx hL
 clear hL
 go_enter func292,ntmps292
 go_wp2_with fail
 go_loopw [7,1] (fun v ix wr=>∃ (k:Nat) (acc:List UInt8) (a:Option Addr) (cap:Nat),i<=k/\k<=s.size/\ix=.int .i64 k/\v=.slice a acc.length cap/\wr.ownsRow (w.heap.size+1) 5 1 (.slice a acc.length cap) acc.length (Lib.byteCells acc)/\Below w.heap.size w wr/\af wr w.heap.size 111 #[.int .i64 0,.int .i64 0,.string ⟨#[]⟩]/\acc.length+i<=k/\fS l i k acc) (fun _ ix _=>s.size - (intOf ix).toNat)
 case atStart =>
  exact⟨i,[],none,0,FA,hi,rfl,rfl,World.ownsRow_nil _ _ _ _,ae Fy _,af.new _ _ _,by simp,qh l i⟩
 case round =>
  obtain⟨k,acc,a,cap,hik,hk,rfl,rfl,hown,hbel,hblk,hacc,hrel⟩:=hrel
  have HR:=Fx hrel
  have HO:=Fx hown
  clear hrel hown
  have hsz:=hbel.size
  have r0:=hblk.cell 0
  have r1:=hblk.cell 1
  have r2:=hblk.cell 2
  have z0:=hblk.frozen 0
  have z1:=hblk.frozen 1
  have z2:=hblk.frozen 2
  simp at r0 r1 r2
  by_cases hlt:k<s.size
  ·have hbt:=bJ s k hlt
   rw[HL.out] at hbt
   have hkl:k<l.length:=by have:=HSL.out;omega
   by_cases hq:bt l k=34
   ·have hne:((k:Int) == (s.size:Int))=false:=by simp;omega
    have hne2:(k == s.size)=false:=by simp;omega
    have q1:(((s[k]'hlt).toNat:Int) != 34)=false:=by rw[hbt];simp [hq]
    have HBT:=Fx hbt
    clear hbt
    by_cases h64:64<acc.length
    ·have HE:=Fx (ws HR.out hkl hq h64)
     clear hq
     go_wp2_with fail
     refine bodyPost_ret (v:=(bad 13).v) (by simp [results,results292,go_sem, *];rfl) rfl ⟨by rw[HE.out],cW hbel _ _ _⟩
    ·have HE:=Fx (ve HR.out hik hkl hq (by omega))
     have hcv:=qB (P:=prog) underlying154 underlying5 underlying9 HO.out
     clear hq
     go_wp2_with fail
     refine bodyPost_ret (v:=(⟨2,0,acc,k+1,0⟩:xI).v) (by simp [results,results292,go_sem, *];rfl) rfl ⟨by rw[HE.out],cW hbel _ _ _⟩
   ·have q1:(((s[k]'hlt).toNat:Int) != 34)=true:=by rw[hbt];simpa using hq
    have HBT:=Fx hbt
    clear hbt
    have hbd:=kJ (l.drop k) (eR hkl)
    have hdl:(l.drop k).length=s.size - k:=by rw[List.length_drop,HSL.out]
    rw[hdl] at hbd
    have HDL:=Fx hdl
    clear hdl
    have hsc:=tV s k wr hlt
    rw[HL.out] at hsc
    by_cases hn:(aC (l.drop k)).2=0
    ·have HE:=Fx (yh HR.out hkl hq hn)
     have hn':((aC (l.drop k)).2 == 0)=true:=by simpa using hn
     have HSC:=Fx hsc
     clear hq hn hsc
     go_wp2_with fail
     refine HSC.out.mono ?_
     rintro e w1 ⟨rfl,hb1⟩
     have hb1':=hbel.trans (hb1.mono hsz)
     have hblk1:=hblk.below hb1 (by have:=hblk.lt;omega)
     have r0:=hblk1.cell 0
     have r1:=hblk1.cell 1
     have r2:=hblk1.cell 2
     have z0:=hblk1.frozen 0
     have z1:=hblk1.frozen 1
     have z2:=hblk1.frozen 2
     simp at r0 r1 r2
     go_wp2_with fail
     refine bodyPost_ret (v:=(bad 11).v) (by simp [results,results292,go_sem, *];rfl) rfl ⟨by rw[HE.out],cW hb1' _ _ _⟩
    ·have hst:=sS HR.out hik hkl hq hn
     have HST:=Fx hst
     have hn':((aC (l.drop k)).2 == 0)=false:=by simpa using hn
     have HSC:=Fx hsc
     have hn1:1<=(aC (l.drop k)).2:=by omega
     have hsn:=uV acc (aC (l.drop k)).1 hbd.1.1 hbd.1.2
     have HSN:=Fx hsn
     clear hq hn hsc hst hsn
     go_wp2_with fail
     refine HSC.out.mono ?_
     rintro e w1 ⟨rfl,hb1⟩
     have hb1':=hbel.trans (hb1.mono hsz)
     have hblk1:=hblk.below hb1 (by have:=hblk.lt;omega)
     have hown1:=(aq.ofBelow (F:=fun _=>False) hb1).ownsRow HO.out (fun _ _ f=>f)
     have HO1:=Fx hown1
     have HB1:=Fx hblk1
     have hsz1:=hb1'.size
     clear hown1 hblk1 hblk r0 r1 r2 z0 z1 z2
     go_wp2_with (at_builtin;refine wpList_append_lies _ rfl (.tmp 30) (.tmp 32) 154 rfl (w.heap.size+1) 5 i0 (.int .u8 0) 1 1 underlying154 hi0 hz0 hz1 hz2 rfl (by decide) (.slice a acc.length cap) acc.length _ rfl (HO1.out.alloc _) ⟨w1.heap.size,0,none⟩ 1 1 [.int .u8 (aC (l.drop k)).1] rfl rfl (cell_one_new _ _ _) ?c2 (by decide) ?c3 (by omega) ?c4 (w1.heap.size+1) (by simp) ?_)
     case c2=>intro u hu;simp at hu;subst hu;rfl
     case c3=>unfold maxLen;omega
     case c4=>have:=HB1.out.lt;simp;omega
     intro g cap1 w2 hown2 hgrow2 hat2 hlt2
     have hb2:Below w.heap.size w w2:=(ae hb1' _).grown hgrow2 (by simp;omega) (fun q hq=>by have:=(HO1.out.lt q hq).1;omega)
     have hblk2:=(HB1.out.alloc (.cells #[.int .u8 (aC (l.drop k)).1] 5)).grown hgrow2 (fun e=>aE HO1.out HB1.out (by decide) e.symm)
     have HO2:=Fx hown2
     have HB2:=Fx hblk2
     clear hown2 hblk2
     go_wp2_with fail
     have hkey:(acc++[UInt8.ofNat (aC (l.drop k)).1.toNat]).length=acc.length+1:=by simp
     refine⟨⟨k+(aC (l.drop k)).2.toNat,acc++[UInt8.ofNat (aC (l.drop k)).1.toNat],some ⟨g,0,none⟩,cap1,by omega,by omega,congrArg (Value.int .i64) (by omega),by rw[hkey],?_,hb2,HB2.out,by rw[hkey];omega,HST.out⟩,?_⟩
     ·rw[hkey,HSN.out];exact HO2.out
     ·simp only[intOf];omega
  ·have hke:k=s.size:=by omega
   subst hke
   have HE:=Fx (zm HR.out HSL.out.symm)
   have hne:((s.size:Int) == (s.size:Int))=true:=by simp
   go_wp2_with fail
   refine bodyPost_ret (v:=(bad 11).v) (by simp [results,results292,go_sem, *];rfl) rfl ⟨by rw[HE.out],cW hbel _ _ _⟩
structure bY (w:World):Prop where
 syn:∃ tp p,w.var? prog "strconv.ErrSyntax" = some #[.iface tp p]
 rng:∃ tp p,w.var? prog "strconv.ErrRange" = some #[.iface tp p]
 tab:Lib.TabIs prog w "internal/strconv.uint64pow10" .u64 Lib.pow10Tab
 many:6+1<=w.heap.size
theorem bY.below {w w':World} (h:bY w) (hb:Below w.heap.size w w'):bY w':=by
 have hm:=h.many
 obtain⟨tp,p,h1⟩:=h.syn
 obtain⟨tq,q,h2⟩:=h.rng
 exact⟨⟨tp,p,var?_below hb (g:=5) (by kernel_rfl) (by omega) h1⟩,⟨tq,q,var?_below hb (g:=6) (by kernel_rfl) (by omega) h2⟩,
  var?_below hb (g:=1) (by kernel_rfl) (by omega) h.tab,Nat.le_trans hm hb.size⟩
def d9 (l:List UInt8):Nat:=(l.takeWhile fun c=>au c.toNat).length
theorem iW {l:List UInt8} {k:Nat} (hk:k<l.length) (hd:au (bt l k)=true):d9 (l.drop k)=1+d9 (l.drop (k+1)):=by
 unfold d9
 rw[List.drop_eq_getElem_cons hk]
 have:au (l[k].toNat:Int)=true:=by
  have e:bt l k=(l[k].toNat:Int):=by simp [bt,hk]
  rw[<-e];exact hd
 rw[List.takeWhile_cons,if_pos this,List.length_cons]
 omega
theorem po {l:List UInt8} {k:Nat} (hk:k<l.length) (hd:au (bt l k)=false):d9 (l.drop k)=0:=by
 unfold d9
 rw[List.drop_eq_getElem_cons hk]
 have:¬ au (l[k].toNat:Int)=true:=by
  have e:bt l k=(l[k].toNat:Int):=by simp [bt,hk]
  rw[<-e,hd];simp
 rw[List.takeWhile_cons,if_neg this]
 rfl
theorem Du (l:List UInt8):d9 l<=l.length:=by
 unfold d9
 induction l with
 | nil=>simp
 | cons a l ih =>
   rw[List.takeWhile_cons]
   split
   ·simp;exact ih
   ·simp
def aM (l:List UInt8) (a:Nat):List UInt8:=(l.drop a).take (1+d9 (l.drop (a+1)))
def fT (l:List UInt8) (a:Nat):xI :=
 if bt (Lib.trimPrefix (aM l a) [45]) 0=48/\1<(aM l a).length then bad 12
 else match Lib.parseIntB 64 (aM l a) with
  | .ok v=>⟨1,v,[],a+(aM l a).length,0⟩
  | _=>bad 12
theorem fB {l:List UInt8} {a:Nat} (h:a<l.length):(aM l a).length=1+d9 (l.drop (a+1)):=by
 have:=Du (l.drop (a+1))
 rw[List.length_drop] at this
 unfold aM
 rw[List.length_take,List.length_drop]
 omega
theorem nL (s:ByteArray) (a:Nat) (w:World) (ha:a<s.size) (hs:s.size<=281474976710656) (hne:Lib.trimPrefix (aM s.data.toList a) [45]≠[]) (hg:bY w) :
 Calls prog 294 #[.string s,.int .i64 a] w fun e w'=>e=.returned (fT s.data.toList a).v/\Below w.heap.size w w':=by
 have hsl:s.data.toList.length=s.size:=rfl
 have HSL:=Fx hsl
 clear hsl
 generalize hL:s.data.toList=l at *
 have HL:=Fx hL
 have HNE:=Fx hne
 have HG:=Fx hg
 clear hL hne hg
 go_enter func294,ntmps294
 go_wp2_with fail
 go_loop [7] (fun ix=>∃ (k:Nat),a+1<=k/\k<=s.size/\ix=.int .i64 k/\d9 (l.drop (a+1))+(a+1)=k+d9 (l.drop k)) (fun ix=>s.size - (intOf ix).toNat)
 case atStart =>
  exact⟨a+1,FA,ha,rfl,by omega⟩
 case round =>
  obtain⟨k,hak,hk,rfl,hrel⟩:=hrel
  have HR:=Fx hrel
  clear hrel
  by_cases hc:k<s.size/\au (bt l k)=true
  ·obtain⟨hlt,hd⟩:=hc
   have hbt:=bJ s k hlt
   rw[HL.out] at hbt
   have hkl:k<l.length:=by have:=HSL.out;omega
   have hst:=iW hkl hd
   have HST:=Fx hst
   have hd':au ((s[k]'hlt).toNat:Int)=true:=by rw[hbt];exact hd
   clear hst hbt hd
   go_wp2_with (go_at_call 293;refine (bh _ _).mono ?_;rintro e w' ⟨rfl,rfl⟩)
   go_round
   case rel=>exact⟨k+1,by omega,by omega,by go_num,by have:=HST.out;have:=HR.out;omega⟩
   case measure=>simp [intOf];omega
  ·have hend:d9 (l.drop k)=0:=by
    by_cases hlt:k<s.size
    ·exact po (by have:=HSL.out;omega) (by simpa using fun h=>hc ⟨hlt,h⟩)
    ·rw[List.drop_of_length_le (by have:=HSL.out;omega)];rfl
   have htok:(s.extract a k).data.toList=aM l a:=by
    rw[Lib.extract_data,HL.out]
    unfold aM
    congr 1
    have:=HR.out
    omega
   have hlen:(aM l a).length=k - a:=by
    have:=fB (l:=l) (a:=a) (by have:=HSL.out;omega)
    have:=HR.out
    omega
   have htp:=Tryz.strings_TrimPrefix (s.extract a k) ⟨#[45]⟩ (w.alloc (.cells #[.int .i64 0,.int .i64 0,.string ⟨#[]⟩] 111))
   rw[htok] at htp
   have HT:=Fx htok
   have HLN:=Fx hlen
   have HTP:=Fx htp
   clear htok hlen htp hend
   have r0:(w.alloc (.cells #[.int .i64 0,.int .i64 0,.string ⟨#[]⟩] 111)).cell? ⟨w.heap.size,0,none⟩=some (.int .i64 0):=by simp
   have hb0:Below w.heap.size w (w.alloc (.cells #[.int .i64 0,.int .i64 0,.string ⟨#[]⟩] 111)):=ae Fy _
   have hB0:af (w.alloc (.cells #[.int .i64 0,.int .i64 0,.string ⟨#[]⟩] 111)) w.heap.size 111 #[.int .i64 0,.int .i64 0,.string ⟨#[]⟩]:=af.new _ _ _
   have HB:=Fx (And.intro hb0 hB0)
   clear r0 hb0 hB0
   by_cases hlt:k<s.size
   case' pos =>
    have hd':au ((s[k]'hlt).toNat:Int)=false:=by
     rw[bJ s k hlt,HL.out]
     simpa using fun h=>hc ⟨hlt,h⟩
    have HC:=Fx hc
    clear hc
    go_wp2_with (go_at_call 293;refine (bh _ _).mono ?_;rintro e w' ⟨rfl,rfl⟩)
   case' neg =>
    have HC:=Fx hc
    clear hc
    go_wp2_with fail
   all_goals
    refine HTP.out.mono ?_
    rintro e w1 ⟨rfl,rfl⟩
    generalize hd:(⟨(Lib.trimPrefix (aM l a) [45]).toArray⟩:ByteArray)=d
    have hdl:d.data.toList=Lib.trimPrefix (aM l a) [45]:=by rw[<-hd]
    have h0:0<d.size:=by
     rw[Lib.size_eq,hdl]
     exact List.length_pos_iff.2 HNE.out
    have hb:=bJ d 0 h0
    rw[hdl] at hb
    have HD:=Fx hdl
    have HN:Hid (fT l a=if bt (Lib.trimPrefix (aM l a) [45]) 0=48/\1<k - a then bad 12 else match Lib.parseIntB 64 (aM l a) with | .ok v=>⟨1,v,[],k,0⟩ | _=>bad 12):=Fx <| by
     have hl2:=HLN.out
     unfold fT
     rw[hl2]
     have:(a:Int)+((k - a:Nat):Int)=k:=by omega
     rw[this]
    clear hd hdl
    generalize hbb:bt (Lib.trimPrefix (aM l a) [45]) 0=b0 at *
    clear hbb
    by_cases hz:b0=48/\1<k - a
    ·have HE:Hid (fT l a=bad 12):=Fx (by rw[HN.out,if_pos hz])
     obtain⟨hz1,hz2⟩:=hz
     have q1:(b0 == 48)=true:=by simpa using hz1
     have q2:(1:Int)<(k:Int) - a:=by omega
     clear hz1 hz2
     go_wp2_with fail
     refine bodyPost_ret (v:=(bad 12).v) (by simp [results,results294,go_sem, *];rfl) rfl ⟨by rw[HE.out],?_⟩
     have hb3:=cW HB.out.1 (.int .i64 0) (.int .i64 0) (.string ⟨#[]⟩)
     simpa [go_sem] using hb3
    ·have q1:(b0 == 48)=false∨((b0 == 48)=true/\(k:Int) - a<=1):=by
      by_cases h48:b0=48
      ·right;exact⟨by simpa using h48,by have:¬ 1<k - a:=fun h=>hz ⟨h48,h⟩;omega⟩
      ·left;simpa using h48
     cases hp:Lib.parseIntB 64 (aM l a) with
     | ok v =>
       have HE:Hid (fT l a=⟨1,v,[],k,0⟩):=Fx (by rw[HN.out,if_neg hz,hp])
       have hpc:=Tryz.strconv_ParseInt_10_at64_ok (s.extract a k) (by rw[Lib.size_eq,HT.out,HLN.out];omega) v (by rw[HT.out];exact hp)
       have HPC:=Fx hpc
       clear hp hpc hz
       rcases q1 with q1 | ⟨q1,q2⟩
       all_goals
        go_wp2_with fail
        refine (HPC.out _).mono ?_
        rintro e w2 ⟨rfl,hw⟩
        have hb2:Below (w.alloc (.cells #[.int .i64 0,.int .i64 0,.string ⟨#[]⟩] 111)).heap.size (w.alloc (.cells #[.int .i64 0,.int .i64 0,.string ⟨#[]⟩] 111)) w2:=by
         rcases hw with rfl | ⟨t,rfl⟩
         ·exact Below.refl _ _
         ·exact Lib.bytesWorld_below _ _ _
        have hb3:Below w.heap.size w w2:=HB.out.1.trans (hb2.mono (by simp))
        have hblk:=HB.out.2.below hb2 (by simp)
        have c0:=hblk.cell 0
        have c1:=hblk.cell 1
        have c2:=hblk.cell 2
        have z0:=hblk.frozen 0
        have z1:=hblk.frozen 1
        have z2:=hblk.frozen 2
        simp at c0 c1 c2
        clear hw hb2 hblk
        go_wp2_with fail
        refine bodyPost_ret (v:=(⟨1,v,[],k,0⟩:xI).v) (by simp [results,results294,go_sem, *];rfl) rfl ⟨by rw[HE.out],?_⟩
        exact cW hb3 _ _ _
     | range =>
       have HE:Hid (fT l a=bad 12):=Fx (by rw[HN.out,if_neg hz,hp])
       obtain⟨tp,pv,hv⟩:=(HG.out.below (w':=w.alloc (.cells #[.int .i64 0,.int .i64 0,.string ⟨#[]⟩] 111)) HB.out.1).rng
       have hpc:=Tryz.strconv_ParseInt_10_at64_range_var (s.extract a k) (by rw[Lib.size_eq,HT.out,HLN.out];omega) (by rw[HT.out];exact hp) tp pv _ hv
       have HPC:=Fx hpc
       clear hp hpc hz hv
       rcases q1 with q1 | ⟨q1,q2⟩
       all_goals
        go_wp2_with fail
        refine HPC.out.mono ?_
        rintro e w2 ⟨N,rfl,_,_,hb2⟩
        have hb3:Below w.heap.size w w2:=HB.out.1.trans (hb2.mono (by simp))
        have hblk:=HB.out.2.below hb2 (by simp)
        have c0:=hblk.cell 0
        have c1:=hblk.cell 1
        have c2:=hblk.cell 2
        have z0:=hblk.frozen 0
        have z1:=hblk.frozen 1
        have z2:=hblk.frozen 2
        simp at c0 c1 c2
        clear hb2 hblk
        go_wp2_with fail
        refine bodyPost_ret (v:=(bad 12).v) (by simp [results,results294,go_sem, *];rfl) rfl ⟨by rw[HE.out],?_⟩
        exact cW hb3 _ _ _
     | _ =>
       have HE:Hid (fT l a=bad 12):=Fx (by rw[HN.out,if_neg hz,hp])
       obtain⟨tp,pv,hv⟩:=(HG.out.below (w':=w.alloc (.cells #[.int .i64 0,.int .i64 0,.string ⟨#[]⟩] 111)) HB.out.1).syn
       have hpc:=Any.strconv_ParseInt_10_at64_syntax_var Tryz.laysC174 (s.extract a k) (by rw[Lib.size_eq,HT.out,HLN.out];omega) (by rw[HT.out];exact hp) tp pv _ hv
       have HPC:=Fx hpc
       clear hp hpc hz hv
       rcases q1 with q1 | ⟨q1,q2⟩
       all_goals
        go_wp2_with fail
        refine HPC.out.mono ?_
        rintro e w2 ⟨N,rfl,_,_,hb2⟩
        have hb3:Below w.heap.size w w2:=HB.out.1.trans (hb2.mono (by simp))
        have hblk:=HB.out.2.below hb2 (by simp)
        have c0:=hblk.cell 0
        have c1:=hblk.cell 1
        have c2:=hblk.cell 2
        have z0:=hblk.frozen 0
        have z1:=hblk.frozen 1
        have z2:=hblk.frozen 2
        simp at c0 c1 c2
        clear hb2 hblk
        go_wp2_with fail
        refine bodyPost_ret (v:=(bad 12).v) (by simp [results,results294,go_sem, *];rfl) rfl ⟨by rw[HE.out],?_⟩
        exact cW hb3 _ _ _
structure ak where
 k:Int
 x:List UInt8
 vk:Int
 vn:Int
 vt:List UInt8
 p:Int
def fY:ak:=⟨0,[],0,0,[],0⟩
def aF (n:Nat):ak:=⟨0,[],0,0,[],n⟩
def ak.v (t:ak):Value:=.agg #[.int .i64 t.k,.string ⟨t.x.toArray⟩,.int .i64 t.vk,.int .i64 t.vn,.string ⟨t.vt.toArray⟩,.int .i64 t.p]
def ak.cells (t:ak):List Value:=[.int .i64 t.k,.string ⟨t.x.toArray⟩,.int .i64 t.vk,.int .i64 t.vn,.string ⟨t.vt.toArray⟩,.int .i64 t.p]
def cO (ts:List ak):List Value:=ts.flatMap ak.cells
theorem ib (ts:List ak) (t:ak):cO (ts++[t])=cO ts++t.cells:=by simp [cO]
theorem vK (ts:List ak):(cO ts).length=ts.length * 6:=by
 unfold cO
 induction ts with
 | nil=>rfl
 | cons a l ih=>simp [List.flatMap_cons,ak.cells,ih];omega
theorem xq (ts:List ak) (i:Nat) (t:ak) (h:ts[i]? = some t) :
 (cO ts)[i * 6]? = some (.int .i64 t.k)/\(cO ts)[i * 6+1]? = some (.string ⟨t.x.toArray⟩)/\(cO ts)[i * 6+2]? = some (.int .i64 t.vk)/\(cO ts)[i * 6+3]? = some (.int .i64 t.vn)/\(cO ts)[i * 6+4]? = some (.string ⟨t.vt.toArray⟩)/\(cO ts)[i * 6+5]? = some (.int .i64 t.p):=by
 unfold cO
 induction ts generalizing i with
 | nil=>simp at h
 | cons a l ih =>
   cases i with
   | zero=>simp at h;subst h;simp [List.flatMap_cons,ak.cells]
   | succ i =>
     have:=ih i (by simpa using h)
     simp only[List.flatMap_cons,ak.cells]
     have e1:(i+1) * 6=i * 6+6:=by omega
     rw[e1]
     simpa using this
variable {P : Program}
theorem fp (w:World) (b:Nat) (cs:Array Value):aq (fun k=>k=b) w (w.setRow b cs) :=
 ⟨rfl,rfl,rfl,by simp [World.setRow],fun i hi hn=>by
  simp only[World.setRow,Array.getElem?_modify]
  rw[if_neg (fun e=>hn e.symm)]⟩
theorem vI {w:World} {b:Nat} {t:TypeId} {cs0 cs:Array Value} (h:af w b t cs0):af (w.setRow b cs) b t cs:=by
 unfold af at h ⊢
 simp [World.setRow,Array.getElem?_modify,h]
theorem kC {op:Oper} {a:Act} {w:World} {K:Act->World->Prop} {Q:Exit->Act->World->Prop} (ty:TypeId) (x y:Operand) (ho:op.op=.store ty x y)
 (b:Nat) (t:TypeId) (cs0 cells:Array Value) (hx:a.eval x=.pointer (some ⟨b,0,none⟩)) (hy:a.eval y=.agg cells) (hb:af w b t cs0)
 (hi:(P.info? ty).map (·.size)=some cells.size) (hsz:cs0.size=cells.size) (h1:cells.all (·.oneCell')=true)
 (h:∀ w',af w' b t cells->aq (fun k=>k=b) w w'->w'.heap.size=w.heap.size->K (a.put op.dst undef) w'):op.wp P a w K Q:=by
 unfold Oper.wp execOp
 simp only[ho,hx,hy,Instr.storeAt,Instr.sureAddr,Sem.run_bind,Sem.run_pure,Result.andThen_ok,run_storeVar_row (P:=P) w b t ty cs0 cells hb hi hsz h1]
 exact h _ (vI hb) (fp w b cells) (by simp [World.setRow])
theorem ar {ops:Array Oper} {rest:List Oper} {op:Oper} {a:Act} {w:World} {Q:Exit->Act->World->Prop} (hgd:op.guard=none) (ty:TypeId) (x y:Operand) (ho:op.op=.store ty x y)
 (b:Nat) (t:TypeId) (cs0 cells:Array Value) (hx:a.eval x=.pointer (some ⟨b,0,none⟩)) (hy:a.eval y=.agg cells) (hb:af w b t cs0)
 (hi:(P.info? ty).map (·.size)=some cells.size) (hsz:cs0.size=cells.size) (h1:cells.all (·.oneCell')=true)
 (h:∀ w',af w' b t cells->aq (fun k=>k=b) w w'->w'.heap.size=w.heap.size->wpList P ops Q rest (a.put op.dst undef) w'):wpList P ops Q (op::rest) a w :=
 wpList_plain hgd fun _ hK=>kC ty x y ho b t cs0 cells hx hy hb hi hsz h1 fun w' h2 h3 h4=>hK _ _ (h w' h2 h3 h4)
theorem dM {ops:Array Oper} {op:Oper} {a:Act} {w:World} {K:Act->World->Prop} {Q:Exit->Act->World->Prop} {E:Prop} (hgd:op.guard=none) (ty:TypeId) (x y:Operand) (ho:op.op=.store ty x y)
 (b:Nat) (t:TypeId) (cs0 cells:Array Value) (hx:a.eval x=.pointer (some ⟨b,0,none⟩)) (hy:a.eval y=.agg cells) (hb:af w b t cs0)
 (hi:(P.info? ty).map (·.size)=some cells.size) (hsz:cs0.size=cells.size) (h1:cells.all (·.oneCell')=true)
 (h:∀ w',af w' b t cells->aq (fun k=>k=b) w w'->w'.heap.size=w.heap.size->K (a.put op.dst undef) w') :
 if Region.wanted op (yielded ops a.tmps)=true then Oper.wp P op a w K Q else E:=by
 have hw:Region.wanted op (yielded ops a.tmps)=true:=by simp [Region.wanted,hgd]
 rw[if_pos hw]
 exact kC ty x y ho b t cs0 cells hx hy hb hi hsz h1 h
theorem aq.own {b:Nat} {w0 w w':World} (h:Below w0.heap.size w0 w) (hm:aq (fun k=>k=b) w w') (hb:w0.heap.size<=b):Below w0.heap.size w0 w' :=
 ⟨hm.os.trans h.os,hm.tape.trans h.tape,hm.output.trans h.output,Nat.le_trans h.size hm.size,fun i hi =>
  (hm.block i (by have hs:=h.size;omega) (by omega)).trans (h.block i hi)⟩
def d7 (r:List UInt8):Bool:=decide (0<r.length/\au (bt r 0)=true∨1<r.length/\bt r 0=45/\au (bt r 1)=true)
def aD (l:List UInt8) (at_:Int):xI :=
 if at_<0∨(l.length:Int)<at_ then bad 10
 else if Lib.hasPrefix (l.drop at_.toNat) [34] then df (l.drop (at_.toNat+1)) (at_+1)
 else if d7 (l.drop at_.toNat) then fT l at_.toNat
 else bad 11
theorem sE {l:List UInt8} {a:Nat} (h:a<l.length):bt (aM l a) 0=bt l a/\aM l a≠[]:=by
 have hl:=fB h
 refine⟨?_,fun e=>by rw[e] at hl;simp at hl;omega⟩
 unfold aM
 rw[List.drop_eq_getElem_cons h,Nat.add_comm 1,List.take_succ_cons]
 simp [bt,h]
theorem A7 {l:List UInt8} {a:Nat} (hn:d7 (l.drop a)=true) (ha:a<=l.length):a<l.length/\Lib.trimPrefix (aM l a) [45]≠[]:=by
 unfold d7 at hn
 simp only[decide_eq_true_eq,List.length_drop,eK,Nat.add_zero] at hn
 have hlt:a<l.length:=by omega
 obtain⟨h1,h2⟩:=sE hlt
 have hl:=fB hlt
 refine⟨hlt,?_⟩
 unfold Lib.trimPrefix Lib.hasPrefix
 cases ht:aM l a with
 | nil=>exact absurd ht h2
 | cons c r =>
   rw[ht] at h1 hl
   have hc:(c.toNat:Int)=bt l a:=by rw[<-h1];simp [bt]
   by_cases h45:c=45
   ·subst h45
    have e:bt l a=45:=by rw[<-hc];rfl
    have hd0:au (bt l a)=false:=by rw[e];rfl
    rw[hd0] at hn
    simp only[Bool.false_eq_true,and_false,false_or] at hn
    have h3:a+1<l.length:=by omega
    have:=iW h3 hn.2.2
    simp only[List.isPrefixOf,beq_self_eq_true,Bool.and_true,if_true,List.length_cons,List.length_nil,List.drop_succ_cons,List.drop_zero]
    intro e2
    rw[e2] at hl
    simp at hl
    omega
   ·have:List.isPrefixOf [45] (c::r)=false:=by simp [List.isPrefixOf,Ne.symm h45]
    rw[this]
    simp
theorem B3 (s:ByteArray) (a:Int) (w:World) (ha:a<0∨(s.size:Int)<a) :
 Calls prog 265 #[.string s,.int .i64 a] w fun e w'=>e=.returned (aD s.data.toList a).v/\Below w.heap.size w w':=by
 have HE:Hid (aD s.data.toList a=bad 10):=Fx (by unfold aD;exact if_pos ha)
 have hb:=cW (ae (Below.refl w.heap.size w) (.cells #[.int .i64 0,.int .i64 0,.string ⟨#[]⟩] 111)) (.int .i64 0) (.int .i64 0) (.string ⟨#[]⟩)
 have HB:=Fx hb
 clear hb
 by_cases h1:a<0
 ·clear ha
  go_enter func265,ntmps265
  go_wp2_with fail
  refine bodyPost_ret (v:=(bad 10).v) (by simp [results,results265,go_sem, *];rfl) rfl ⟨by rw[HE.out],?_⟩
  simpa [go_sem] using HB.out
 ·have h2:(s.size:Int)<a:=by omega
  clear ha
  go_enter func265,ntmps265
  go_wp2_with fail
  refine bodyPost_ret (v:=(bad 10).v) (by simp [results,results265,go_sem, *];rfl) rfl ⟨by rw[HE.out],?_⟩
  simpa [go_sem] using HB.out
theorem Di (s:ByteArray) (a:Nat) (w:World) (ha:a<=s.size) (hs:s.size<=a+140737488355328) (hs2:s.size<=281474976710656) (hg:bY w) :
 Calls prog 265 #[.string s,.int .i64 a] w fun e w'=>e=.returned (aD s.data.toList a).v/\Below w.heap.size w w':=by
 have hsl:s.data.toList.length=s.size:=rfl
 have HE:Hid (aD s.data.toList a=if Lib.hasPrefix (s.data.toList.drop a) [34] then df (s.data.toList.drop (a+1)) (a+1) else if d7 (s.data.toList.drop a) then fT s.data.toList a else bad 11):=Fx (by
  unfold aD
  rw[if_neg (by rw[hsl];omega)]
  simp only[Int.toNat_natCast])
 have hx:=gL s a
 have HX:=Fx hx
 have HS:=Fx hsl
 have HG:=Fx hg
 have hW:Below w.heap.size w (w.alloc (.cells #[.int .i64 0,.int .i64 0,.string ⟨#[]⟩] 111))/\af (w.alloc (.cells #[.int .i64 0,.int .i64 0,.string ⟨#[]⟩] 111)) w.heap.size 111 #[.int .i64 0,.int .i64 0,.string ⟨#[]⟩]:=⟨ae Fy _,af.new _ _ _⟩
 have HW:=Fx hW
 clear hx hsl hg hW
 have hpf:=fun W=>Tryz.strings_HasPrefix (s.extract a s.size) ⟨#[34]⟩ W
 have HP:=Fx hpf
 clear hpf
 go_enter func265,ntmps265
 go_wp2_with fail
 refine (HP.out _).mono ?_
 rintro e w1 ⟨rfl,rfl⟩
 rw[HX.out]
 by_cases hp:Lib.hasPrefix (s.data.toList.drop a) [34]=true
 ·have HE2:Hid (aD s.data.toList a=df (s.data.toList.drop (a+1)) (a+1)):=Fx (by rw[HE.out,if_pos hp])
  have hlt:a<s.size:=by
   have h1:s.data.toList.drop a≠[]:=by
    intro e;rw[e] at hp;simp [Lib.hasPrefix] at hp
   have h2:=HS.out
   have h3:=List.length_pos_iff.2 h1
   rw[List.length_drop] at h3
   omega
  have hst:=fun W=>ru s (a+1) W (by omega) (by omega) hs2
  have hc:((a+1:Nat):Int)=(a:Int)+1:=by omega
  rw[hc] at hst
  have HST:=Fx hst
  clear hst hc
  rw[hp]
  go_wp2_with fail
  refine (HST.out _).mono ?_
  rintro e w2 ⟨rfl,hb2⟩
  have hb3:=HW.out.1.trans (hb2.mono (by simp))
  have hblk:=HW.out.2.below hb2 (by simp)
  have c0:=hblk.cell 0
  have c1:=hblk.cell 1
  have c2:=hblk.cell 2
  have z0:=hblk.frozen 0
  have z1:=hblk.frozen 1
  have z2:=hblk.frozen 2
  simp at c0 c1 c2
  clear hb2 hblk
  generalize df (s.data.toList.drop (a+1)) (↑a+1)=r at *
  unfold xI.v
  go_wp2_with fail
  refine bodyPost_ret (v:=r.v) (by simp [results,results265,go_sem, *];rfl) rfl ⟨by rw[HE2.out],cW hb3 _ _ _⟩
 ·have hp':Lib.hasPrefix (s.data.toList.drop a) [34]=false:=by simpa using hp
  rw[hp']
  have hdz:(s.extract a s.size).size=s.size - a:=by rw[Lib.size_eq,HX.out,List.length_drop,HS.out]
  generalize hd:s.extract a s.size=d at *
  have hdl:d.data.toList=s.data.toList.drop a:=HX.out
  have HDL:=Fx hdl
  have HDZ:=Fx hdz
  have hdn:(s.data.toList.drop a).length=d.size:=by rw[<-hdl];rfl
  have HDN:=Fx hdn
  clear hd hdl hdz hdn
  by_cases hn:d7 (s.data.toList.drop a)=true
  ·have HE2:Hid (aD s.data.toList a=fT s.data.toList a):=Fx (by rw[HE.out,if_neg hp,if_pos hn])
   obtain⟨hlt,hne⟩:=A7 hn (by have:=HS.out;omega)
   have hgw:=HG.out.below HW.out.1
   have hsn:=nL s a _ (by have:=HS.out;omega) hs2 hne hgw
   have HSN:=Fx hsn
   have hlt':a<s.size:=by have:=HS.out;omega
   have hd0:0<d.size:=by have:=HDZ.out;omega
   have hne1:(!d.toList.isEmpty)=true:=by
    rw[ByteArray.toList_eq,HDL.out]
    have:=eR hlt
    cases h:s.data.toList.drop a with
    | nil=>exact absurd h this
    | cons _ _=>rfl
   have hb0:=bJ d 0 hd0
   rw[HDL.out] at hb0
   unfold d7 at hn
   rw[HDN.out] at hn
   simp only[decide_eq_true_eq] at hn
   have HNN:=Fx hn
   have HXX:Hid (Lib.hasPrefix (s.data.toList.drop a) [34]=false):=Fx hp'
   clear hsn hgw hp hp' hlt hne
   generalize hg0:bt (s.data.toList.drop a) 0=b0 at *
   clear hg0
   by_cases hdig:au b0=true
   ·clear hn
    go_wp2_with (go_at_call 293;refine (bh _ _).mono ?_;rintro e w' ⟨rfl,rfl⟩)
    refine HSN.out.mono ?_
    rintro e w2 ⟨rfl,hb2⟩
    have hb3:=HW.out.1.trans (hb2.mono (by simp))
    have hblk:=HW.out.2.below hb2 (by simp)
    have c0:=hblk.cell 0
    have c1:=hblk.cell 1
    have c2:=hblk.cell 2
    have z0:=hblk.frozen 0
    have z1:=hblk.frozen 1
    have z2:=hblk.frozen 2
    simp at c0 c1 c2
    clear hb2 hblk
    generalize fT s.data.toList a=r at *
    unfold xI.v
    go_wp2_with fail
    refine bodyPost_ret (v:=r.v) (by simp [results,results265,go_sem, *];rfl) rfl ⟨by rw[HE2.out],cW hb3 _ _ _⟩
   ·have hdig':au b0=false:=by simpa using hdig
    obtain⟨h2,h45,hd1⟩:1<d.size/\b0=45/\au (bt (s.data.toList.drop a) 1)=true:=by
     rcases hn with hn | hn
     ·exact absurd hn.2 hdig
     ·exact hn
    have q1:(b0 == 45)=true:=by simpa using h45
    have hb1:=bJ d 1 h2
    rw[HDL.out] at hb1
    generalize hg1:bt (s.data.toList.drop a) 1=b1 at *
    have h2':(1:Int)<d.size:=by omega
    clear hg1 hn hdig h45
    go_wp2_with (go_at_call 293;refine (bh _ _).mono ?_;rintro e w' ⟨rfl,rfl⟩)
    refine HSN.out.mono ?_
    rintro e w2 ⟨rfl,hb2⟩
    have hb3:=HW.out.1.trans (hb2.mono (by simp))
    have hblk:=HW.out.2.below hb2 (by simp)
    have c0:=hblk.cell 0
    have c1:=hblk.cell 1
    have c2:=hblk.cell 2
    have z0:=hblk.frozen 0
    have z1:=hblk.frozen 1
    have z2:=hblk.frozen 2
    simp at c0 c1 c2
    clear hb2 hblk
    generalize fT s.data.toList a=r at *
    unfold xI.v
    go_wp2_with fail
    refine bodyPost_ret (v:=r.v) (by simp [results,results265,go_sem, *];rfl) rfl ⟨by rw[HE2.out],cW hb3 _ _ _⟩
  ·have hn':d7 (s.data.toList.drop a)=false:=by simpa using hn
   have HE2:Hid (aD s.data.toList a=bad 11):=Fx (by rw[HE.out,if_neg hp,if_neg hn])
   unfold d7 at hn
   rw[HDN.out] at hn
   simp only[decide_eq_true_eq] at hn
   have HB3:=Fx (cW HW.out.1 (.int .i64 0) (.int .i64 0) (.string ⟨#[]⟩))
   have HXX:Hid (Lib.hasPrefix (s.data.toList.drop a) [34]=false):=Fx hp'
   clear hp hp' hn'
   by_cases hd0:0<d.size
   ·have hne1:(!d.toList.isEmpty)=true:=by
     rw[ByteArray.toList_eq,HDL.out]
     have:=HDN.out
     cases h:s.data.toList.drop a with
     | nil=>rw[h] at this;simp at this;omega
     | cons _ _=>rfl
    have hb0:=bJ d 0 hd0
    rw[HDL.out] at hb0
    have hdig:au (bt (s.data.toList.drop a) 0)=false:=by
     cases h:au (bt (s.data.toList.drop a) 0) with
     | false=>rfl
     | true=>exact absurd (.inl ⟨hd0,h⟩) hn
    by_cases h2:1<d.size
    ·have hb1:=bJ d 1 h2
     rw[HDL.out] at hb1
     have h2':(1:Int)<d.size:=by omega
     by_cases h45:bt (s.data.toList.drop a) 0=45
     ·have hd1:au (bt (s.data.toList.drop a) 1)=false:=by
       cases h:au (bt (s.data.toList.drop a) 1) with
       | false=>rfl
       | true=>exact absurd (.inr ⟨h2,h45,h⟩) hn
      have q1:(bt (s.data.toList.drop a) 0 == 45)=true:=by simpa using h45
      clear hn h45
      generalize bt (s.data.toList.drop a) 0=b0 at *
      generalize bt (s.data.toList.drop a) 1=b1 at *
      go_wp2_with (go_at_call 293;refine (bh _ _).mono ?_;rintro e w' ⟨rfl,rfl⟩)
      refine bodyPost_ret (v:=(bad 11).v) (by simp [results,results265,go_sem, *];rfl) rfl ⟨by rw[HE2.out],?_⟩
      simpa [go_sem] using HB3.out
     ·have q1:(bt (s.data.toList.drop a) 0 == 45)=false:=by simpa using h45
      clear hn h45 hb1
      generalize bt (s.data.toList.drop a) 0=b0 at *
      go_wp2_with (go_at_call 293;refine (bh _ _).mono ?_;rintro e w' ⟨rfl,rfl⟩)
      refine bodyPost_ret (v:=(bad 11).v) (by simp [results,results265,go_sem, *];rfl) rfl ⟨by rw[HE2.out],?_⟩
      simpa [go_sem] using HB3.out
    ·have h2':(d.size:Int)<=1:=by omega
     clear hn h2
     generalize bt (s.data.toList.drop a) 0=b0 at *
     go_wp2_with (go_at_call 293;refine (bh _ _).mono ?_;rintro e w' ⟨rfl,rfl⟩)
     refine bodyPost_ret (v:=(bad 11).v) (by simp [results,results265,go_sem, *];rfl) rfl ⟨by rw[HE2.out],?_⟩
     simpa [go_sem] using HB3.out
   ·have hne1:(!d.toList.isEmpty)=false:=by
     rw[ByteArray.toList_eq,HDL.out]
     have:=HDN.out
     cases h:s.data.toList.drop a with
     | nil=>rfl
     | cons _ _=>rw[h] at this;simp at this;omega
    have h2':(d.size:Int)<=1:=by omega
    clear hn hd0
    go_wp2_with (go_at_call 293;refine (bh _ _).mono ?_;rintro e w' ⟨rfl,rfl⟩)
    refine bodyPost_ret (v:=(bad 11).v) (by simp [results,results265,go_sem, *];rfl) rfl ⟨by rw[HE2.out],?_⟩
    simpa [go_sem] using HB3.out
theorem rS (s:ByteArray) (a:Int) (w:World) (hs:s.size<=140737488355328) (hg:bY w) :
 Calls prog 265 #[.string s,.int .i64 a] w fun e w'=>e=.returned (aD s.data.toList a).v/\Below w.heap.size w w':=by
 by_cases h:a<0∨(s.size:Int)<a
 ·exact B3 s a w h
 ·obtain⟨n,rfl⟩:=Int.eq_ofNat_of_zero_le (show 0<=a by omega)
  exact Di s n w (by omega) (by omega) (by omega) hg
