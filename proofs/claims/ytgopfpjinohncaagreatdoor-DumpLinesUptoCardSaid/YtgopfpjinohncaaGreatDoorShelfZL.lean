/- DERIVED: THE SHELF's CONTRACTS AT THIS DUMP, IN PLAIN WORDS (tools/lay-plain.mjs out of 'TryzShelfCut.lean', which tools/lay-shelf.mjs wrote): THE SAME DECLARATIONS UNDER THE SAME NAMES: 'import', 'namespace', 'open', 'def', 'theorem' AND NOTHING ELSE: no command of the shelf's: FOR A HAND-IN. Each laying: the table of numbers ('.._ren') and one theorem, a field a fact of the dump's own or the ker -/
import Derived.Test.YtgopfpjinohncaaGreatDoorProg
import Derived.Shelf.Strings.Builder1
import Derived.Shelf.Strings.Builder2
import Derived.Shelf.Strings.BuilderF
import Derived.Shelf.Strings.BuilderK
import Derived.Shelf.Small.Strs
import Derived.Shelf.Strconv.Itoa0
import Derived.Shelf.Strconv.Itoa1
import Derived.Shelf.LaysM
import Derived.Shelf.Strconv.Itoa2
import Derived.Shelf.Strconv.Itoa3
import Derived.Shelf.Strconv.Itoa4
import Derived.Shelf.Strconv.ParseIntEmpty
import Derived.Shelf.Strconv.Clone
import Derived.Shelf.Strconv.SyntaxError
import Derived.Shelf.LaysC
import Derived.Shelf.Strconv.ToError
import Derived.Shelf.Strconv.Lower
import Derived.Shelf.Strconv.ParseUint10
import Derived.Shelf.Strconv.ParseUint10Empty
import Derived.Shelf.Strconv.ParseUint10Any
import Derived.Shelf.Strconv.ParseInt10
import Derived.Shelf.Strconv.RangeError
import Derived.Shelf.Strconv.ToErrorRange
import Derived.Shelf.Strconv.ParseUintEmpty
import Derived.Shelf.Strconv.ParseUint10b64
import Derived.Shelf.Strconv.ParseUint10b32
import Derived.Shelf.Strconv.ParseUint10b16
import Derived.Shelf.Strconv.ParseUint10b8
import Derived.Shelf.Strconv.ParseUint10At
import Derived.Shelf.Strconv.ParseInt10At64
import Derived.Shelf.Strconv.ParseInt10At32
import Derived.Shelf.Strconv.ParseInt10At16
import Derived.Shelf.Strconv.ParseInt10At8
import Derived.Shelf.Strconv.ParseInt10All
import Derived.Shelf.Strconv.ParseIntPublic10
import Derived.Shelf.Strconv.ErrVarParseInt
import Derived.Shelf.Strings.Prefix
import Derived.WalkKit
import Derived.Deep.Draws
import Derived.WalkSpells
import Derived.WalkLawsBesides
import Derived.Deep.QuietTactic
import Derived.BigQuiet
import Derived.Lib.Hide
import Derived.Handy
import Derived.Deep.Light
import Derived.Deep.AppendLies
import Derived.Lib.UnsafeStr
import Derived.Lib.Strings
import Derived.WalkSmall
import Derived.Lib.AtoiErrMem
import Derived.Deep.LoopGhost
import Derived.Deep.WholeRow
import Derived.Deep.MidRow
/-
 DERIVED: THE SHELF's CONTRACTS AT THIS DUMP,IN PLAIN WORDS (tools/lay-plain.mjs out of 'TryzShelfCut.lean',which tools/lay-shelf.mjs wrote): THE SAME DECLARATIONS UNDER THE SAME NAMES: 'import','namespace','open','def','theorem' AND NOTHING ELSE: no command of the shelf's: FOR A HAND-IN. Each laying: the table of numbers ('.._ren') and one theorem,a field a fact of the dump's own or the kernel's comparison;each contract: ONE APPLICATION.
-/
namespace Go.Proofs
open Go.Shelf
def Tryz.lays169_ren:Go.Shelf.Ren:=⟨fun | 169=>89 | n=>n,fun | 70=>153 | 9=>9 | 0=>0 | 72=>156 | 37=>154 | 127=>259 | 3=>3 | 5=>5 | n=>n,fun | n=>n⟩
theorem Tryz.lays169:Go.Proofs.Lays.n169 Tryz.prog Tryz.lays169_ren := {
 mixed:=by kernel_rfl
 f169:=Tryz.func89.trans (congrArg some (by kernel_rfl))
 t0:=Tryz.underlying0
 a0:=Tryz.isAgg0
 z0:=Tryz.sizeOf0
 v0:=Tryz.zeroValue0
 t3:=Tryz.underlying3
 a3:=Tryz.isAgg3
 z3:=Tryz.sizeOf3
 v3:=Tryz.zeroValue3
 t9:=Tryz.underlying9
 a9:=Tryz.isAgg9
 z9:=Tryz.sizeOf9
 v9:=Tryz.zeroValue9
 t37:=Tryz.underlying154
 a37:=Tryz.isAgg154
 z37:=Tryz.sizeOf154
 v37:=Tryz.zeroValue154
 t70:=Tryz.underlying153
 a70:=Tryz.isAgg153
 z70:=Tryz.sizeOf153
 v70:=Tryz.zeroValue153
 t72:=Tryz.underlying156
 a72:=Tryz.isAgg156
 z72:=Tryz.sizeOf156
 v72:=Tryz.zeroValue156
 t127:=Tryz.underlying259
 a127:=Tryz.isAgg259
 z127:=Tryz.sizeOf259
 v127:=Tryz.zeroValue259 }
theorem Tryz.Builder_Extra_169:Builder.Extra Tryz.prog Tryz.lays169_ren := {
 sizeBuilder:=by kernel_rfl
 liesBuilder:=by kernel_rfl
 t5:=Tryz.underlying5
 a5:=Tryz.isAgg5
 z5:=Tryz.sizeOf5
 v5:=Tryz.zeroValue5
 infoByte:=by kernel_rfl
 cellsByte:=by kernel_rfl
 sizeByte:=by kernel_rfl
 neB5:=by decide }
open Go.RowKit in
theorem Tryz.Builder_String_any (B b:Nat) (l:List UInt8) (w:World) (h:Lib.IsBuilder 156 5 B b (Lib.byteCells l) w) (hBw:B<=w.heap.size) :
 Calls Tryz.prog 89 #[.pointer (some ⟨b,0,none⟩)] w fun e w'=>e=.returned (.string ⟨l.toArray⟩)/\Below B w w':=Any.Builder_String_any Tryz.lays169 Tryz.Builder_Extra_169 B b l w h hBw
def Tryz.lays106_ren:Go.Shelf.Ren:=⟨fun | 106=>231 | 213=>264 | 265=>290 | n=>n,fun | 9=>9 | 3=>3 | n=>n,fun | n=>n⟩
theorem Tryz.lays106:Go.Proofs.Lays.n106 Tryz.prog Tryz.lays106_ren := {
 mixed:=by kernel_rfl
 f106:=Tryz.func231.trans (congrArg some (by kernel_rfl))
 f213:=Tryz.func264.trans (congrArg some (by kernel_rfl))
 f265:=Tryz.func290.trans (congrArg some (by kernel_rfl))
 t3:=Tryz.underlying3
 a3:=Tryz.isAgg3
 z3:=Tryz.sizeOf3
 v3:=Tryz.zeroValue3
 t9:=Tryz.underlying9
 a9:=Tryz.isAgg9
 z9:=Tryz.sizeOf9
 v9:=Tryz.zeroValue9 }
open Go.RowKit in
theorem Tryz.strings_Compare (a b:ByteArray) (w:World) :
 Calls Tryz.prog 231 #[.string a,.string b] w fun e w'=>e=.returned (.int .i64 (Lib.compareBytes a.data.toList b.data.toList))/\w'=w:=Any.strings_Compare Tryz.lays106 a b w
def Tryz.laysM173_ren:Go.Shelf.Ren:=⟨fun | 173=>205 | 246=>209 | 283=>253 | 284=>254 | 285=>255 | 286=>256 | 129=>227 | 317=>285 | 318=>286 | 319=>287 | 320=>288 | 337=>312 | 338=>313 | n=>n,fun | 2=>2 | 3=>3 | 9=>9 | 4=>4 | 171=>338 | 0=>0 | 53=>293 | 37=>154 | 5=>5 | 173=>340 | 212=>387 | 51=>309 | 20=>20 | 213=>388 | 46=>262 | 232=>439 | 233=>440 | n=>n,fun | 17=>1 | 18=>3 | 19=>4 | n=>n⟩
theorem Tryz.laysM173:Go.Proofs.LaysM.n173 Tryz.prog Tryz.laysM173_ren := {
 mixed:=by kernel_rfl
 f129:=Tryz.func227.trans (congrArg some (by kernel_rfl))
 f173:=Tryz.func205.trans (congrArg some (by kernel_rfl))
 f246:=Tryz.func209.trans (congrArg some (by kernel_rfl))
 f283:=Tryz.func253.trans (congrArg some (by kernel_rfl))
 f284:=Tryz.func254.trans (congrArg some (by kernel_rfl))
 f285:=Tryz.func255.trans (congrArg some (by kernel_rfl))
 f286:=Tryz.func256.trans (congrArg some (by kernel_rfl))
 f317:=Tryz.func285.trans (congrArg some (by kernel_rfl))
 f318:=Tryz.func286.trans (congrArg some (by kernel_rfl))
 f319:=Tryz.func287.trans (congrArg some (by kernel_rfl))
 f320:=Tryz.func288.trans (congrArg some (by kernel_rfl))
 f337:=Tryz.func312.trans (congrArg some (by kernel_rfl))
 f338:=Tryz.func313.trans (congrArg some (by kernel_rfl))
 t0:=Tryz.underlying0
 a0:=Tryz.isAgg0
 z0:=Tryz.sizeOf0
 v0:=Tryz.zeroValue0
 t2:=Tryz.underlying2
 a2:=Tryz.isAgg2
 z2:=Tryz.sizeOf2
 v2:=Tryz.zeroValue2
 t3:=Tryz.underlying3
 a3:=Tryz.isAgg3
 z3:=Tryz.sizeOf3
 v3:=Tryz.zeroValue3
 t4:=Tryz.underlying4
 a4:=Tryz.isAgg4
 z4:=Tryz.sizeOf4
 v4:=Tryz.zeroValue4
 t5:=Tryz.underlying5
 a5:=Tryz.isAgg5
 z5:=Tryz.sizeOf5
 v5:=Tryz.zeroValue5
 t9:=Tryz.underlying9
 a9:=Tryz.isAgg9
 z9:=Tryz.sizeOf9
 v9:=Tryz.zeroValue9
 t20:=Tryz.underlying20
 a20:=Tryz.isAgg20
 z20:=Tryz.sizeOf20
 v20:=Tryz.zeroValue20
 t37:=Tryz.underlying154
 a37:=Tryz.isAgg154
 z37:=Tryz.sizeOf154
 v37:=Tryz.zeroValue154
 t46:=Tryz.underlying262
 a46:=Tryz.isAgg262
 z46:=Tryz.sizeOf262
 v46:=Tryz.zeroValue262
 t51:=Tryz.underlying309
 a51:=Tryz.isAgg309
 z51:=Tryz.sizeOf309
 v51:=Tryz.zeroValue309
 t53:=Tryz.underlying293
 a53:=Tryz.isAgg293
 z53:=Tryz.sizeOf293
 v53:=Tryz.zeroValue293
 t171:=Tryz.underlying338
 a171:=Tryz.isAgg338
 z171:=Tryz.sizeOf338
 v171:=Tryz.zeroValue338
 t173:=Tryz.underlying340
 a173:=Tryz.isAgg340
 z173:=Tryz.sizeOf340
 v173:=Tryz.zeroValue340
 t212:=Tryz.underlying387
 a212:=Tryz.isAgg387
 z212:=Tryz.sizeOf387
 v212:=Tryz.zeroValue387
 t213:=Tryz.underlying388
 a213:=Tryz.isAgg388
 z213:=Tryz.sizeOf388
 t232:=Tryz.underlying439
 a232:=Tryz.isAgg439
 z232:=Tryz.sizeOf439
 v232:=Tryz.zeroValue439
 t233:=Tryz.underlying440
 a233:=Tryz.isAgg440
 z233:=Tryz.sizeOf440
 v233:=Tryz.zeroValue440
 g17:=by kernel_rfl
 g18:=by kernel_rfl
 g19:=by kernel_rfl
 i0:=by kernel_rfl
 i2:=by kernel_rfl
 i3:=by kernel_rfl
 i4:=by kernel_rfl
 i5:=by kernel_rfl
 i9:=by kernel_rfl
 i20:=by kernel_rfl
 i37:=by kernel_rfl
 i46:=by kernel_rfl
 i51:=by kernel_rfl
 i53:=by kernel_rfl
 i171:=by kernel_rfl
 i173:=by kernel_rfl
 i212:=by kernel_rfl
 i232:=by kernel_rfl
 i233:=by kernel_rfl
 m17:=by kernel_rfl
 m18:=by kernel_rfl
 m19:=by kernel_rfl }
open Go.RowKit Go.Sort Go.Lib in
theorem Tryz.strconv_FormatInt_10 (n:Int) (h0 : -9223372036854775808<=n) (h1:n<=9223372036854775807) (w:World) (htab:Lib.TabIs Tryz.prog w "internal/strconv.uint64pow10" .u64 Lib.pow10Tab) :
 Calls Tryz.prog 205 #[.int .i64 n,.int .i64 10] w fun e w'=>e=.returned (.string ⟨(Lib.itoa n).toArray⟩)/\∃ k os,w'=grow (w.drewN k) os:=Any.strconv_FormatInt_10 Tryz.laysM173 n h0 h1 w htab
end Go.Proofs
namespace Go.Proofs.YtgopfpjinohncaaGreatDoor
open Go.RowKit
structure Mod (F:Nat->Prop) (w w':World):Prop where
 os:w'.os=w.os
 tape:w'.tape=w.tape
 output:w'.output=w.output
 size:w.heap.size<=w'.heap.size
 block:∀ k,k<w.heap.size->¬ F k->w'.heap[k]? = w.heap[k]?
theorem Mod.refl (F:Nat->Prop) (w:World):Mod F w w:=⟨rfl,rfl,rfl,Nat.le_refl _,fun _ _ _=>rfl⟩
theorem Mod.trans {F G:Nat->Prop} {a b c:World} (h:Mod F a b) (k:Mod G b c) (hG:∀ i,i<a.heap.size->G i->F i):Mod F a c :=
 ⟨k.os.trans h.os,k.tape.trans h.tape,k.output.trans h.output,Nat.le_trans h.size k.size,
  fun i hi hn=>(k.block i (Nat.lt_of_lt_of_le hi h.size) (fun g=>hn (hG i hi g))).trans (h.block i hi hn)⟩
theorem Mod.mono {F G:Nat->Prop} {a b:World} (h:Mod F a b) (hG:∀ i,i<a.heap.size->F i->G i):Mod G a b :=
 ⟨h.os,h.tape,h.output,h.size,fun i hi hn=>h.block i hi (fun f=>hn (hG i hi f))⟩
theorem Mod.drew {F:Nat->Prop} {a w:World} (h:Mod F a w):Mod F a w.drew:=⟨h.os,h.tape,h.output,h.size,h.block⟩
theorem Mod.drewN {F:Nat->Prop} {a w:World} (h:Mod F a w) (n:Nat):Mod F a (w.drewN n):=⟨h.os,h.tape,h.output,h.size,h.block⟩
theorem Mod.alloc {F:Nat->Prop} {a w:World} (h:Mod F a w) (o:Obj):Mod F a (w.alloc o) :=
 ⟨h.os,h.tape,h.output,Nat.le_trans h.size (by simp),fun i hi hn=>(Below.heap_alloc w o i (Nat.lt_of_lt_of_le hi h.size)).trans (h.block i hi hn)⟩
theorem Mod.setCell {F:Nat->Prop} {a w:World} (h:Mod F a w) {p:Addr} (hp:p.block<a.heap.size->F p.block) (u:Value):Mod F a (w.setCell p u) :=
 ⟨h.os,h.tape,h.output,Nat.le_trans h.size (by simp [World.setCell]),fun i hi hn =>
  (Below.heap_setCell w p u i (fun e=>hn (by subst e;exact hp hi))).trans (h.block i hi hn)⟩
theorem Mod.grown {F:Nat->Prop} {a w w':World} {row:Option Nat} (h:Mod F a w) (hg:w.grownBy w' row) (hr:∀ k,row=some k->k<a.heap.size->F k):Mod F a w' :=
 ⟨hg.os.trans h.os,hg.tape.trans h.tape,hg.output.trans h.output,Nat.le_trans h.size hg.size,fun i hi hn =>
  (hg.block i (Nat.lt_of_lt_of_le hi h.size) (fun e=>hn (hr i e.symm hi))).trans (h.block i hi hn)⟩
theorem Mod.below {F:Nat->Prop} {B:Nat} {w w':World} (h:Mod F w w') (hB:B<=w.heap.size) (hF:∀ i,F i->B<=i):Below B w w' :=
 ⟨h.os,h.tape,h.output,h.size,fun i hi=>h.block i (by omega) (fun f=>by have:=hF i f;omega)⟩
theorem Mod.ofBelow {F:Nat->Prop} {w w':World} (h:Below w.heap.size w w'):Mod F w w' :=
 ⟨h.os,h.tape,h.output,h.size,fun i hi _=>h.block i hi⟩
theorem Mod.ownsRow {F:Nat->Prop} {w w':World} (h:Mod F w w') {base:Nat} {e:TypeId} {size:Nat} {v:Value} {n:Nat} {xs:List Value}
 (ho:w.ownsRow base e size v n xs) (hn:∀ k,v.ownBlock=some k->¬ F k):w'.ownsRow base e size v n xs:=by
 refine⟨ho.1,?_⟩
 rcases ho.2 with h2 | ⟨g,cap,cur,rfl,hb,hg,rest⟩
 ·exact .inl h2
 ·exact .inr ⟨g,cap,cur,rfl,hb,(h.block g (Array.getElem?_eq_some_iff.1 hg).1 (hn g rfl)).trans hg,rest⟩
theorem bdrewN {B:Nat} {a w:World} (h:Below B a w) (n:Nat):Below B a (w.drewN n):=⟨h.os,h.tape,h.output,h.size,h.block⟩
theorem bdrew {B:Nat} {a w:World} (h:Below B a w):Below B a w.drew:=⟨h.os,h.tape,h.output,h.size,h.block⟩
theorem balloc {w w':World} (h:Below w.heap.size w w') (o:Obj):Below w.heap.size w (w'.alloc o):=h.alloc h.size o
theorem bt2 {w W W':World} (h:Below w.heap.size w W) (k:Below W.heap.size W W'):Below w.heap.size w W':=h.trans (k.mono h.size)
def Blk (w:World) (g:Nat) (t:TypeId) (cs:Array Value):Prop:=w.heap[g]? = some (.cells cs t (0,0))
section
variable {w w' : World} {g : Nat} {t : TypeId} {cs : Array Value}
theorem Blk.lt (h:Blk w g t cs):g<w.heap.size:=by
 rcases Nat.lt_or_ge g w.heap.size with hlt | hge
 ·exact hlt
 ·unfold Blk at h;rw[Array.getElem?_eq_none hge] at h;cases h
theorem Blk.cell (h:Blk w g t cs) (i:Nat):w.cell? ⟨g,i,none⟩=cs[i]? := cell_of_row w g i cs t (0,0) h
theorem Blk.frozen (h:Blk w g t cs) (i:Nat):w.frozen? ⟨g,i,none⟩=false:=by
 unfold Blk at h
 simp [World.frozen?,h]
theorem Blk.new (w:World) (t:TypeId) (cs:Array Value):Blk (w.alloc (.cells cs t)) w.heap.size t cs:=heap_alloc_new w _
theorem Blk.drew (h:Blk w g t cs):Blk w.drew g t cs:=h
theorem Blk.drewN (h:Blk w g t cs) (n:Nat):Blk (w.drewN n) g t cs:=h
theorem Blk.alloc (h:Blk w g t cs) (o:Obj):Blk (w.alloc o) g t cs:=(Below.heap_alloc w o g h.lt).trans h
theorem Blk.set_ (h:Blk w g t cs) (i:Nat) (u:Value):Blk (w.setCell ⟨g,i,none⟩ u) g t (cs.setIfInBounds i u):=by
 unfold Blk at h ⊢
 simp [World.setCell,Array.getElem?_modify,h]
theorem Blk.far (h:Blk w g t cs) {p:Addr} (hp:g≠p.block) (u:Value):Blk (w.setCell p u) g t cs:=(Below.heap_setCell w p u g hp).trans h
theorem Blk.below {B:Nat} (h:Blk w g t cs) (hb:Below B w w') (hg:g<B):Blk w' g t cs:=(hb.block g hg).trans h
theorem Blk.mod {F:Nat->Prop} (h:Blk w g t cs) (hb:Mod F w w') (hg:¬ F g):Blk w' g t cs:=(hb.block g h.lt hg).trans h
theorem Blk.grown {row:Option Nat} (h:Blk w g t cs) (hb:w.grownBy w' row) (hg:some g≠row):Blk w' g t cs:=(hb.block g h.lt hg).trans h
theorem Blk.ne_ {g':Nat} {t':TypeId} {cs':Array Value} (h:Blk w g t cs) (h':Blk w g' t' cs') (hne:t≠t'):g≠g':=by
 rintro rfl
 unfold Blk at h h'
 rw[h] at h'
 injection h' with h'
 injection h' with _ ht
 exact hne ht
theorem own_blk_ne {base:Nat} {e:TypeId} {size n:Nat} {v:Value} {xs:List Value} (h:w.ownsRow base e size v n xs) (hg:Blk w g t cs) (hne:e≠t):v.ownBlock≠some g:=by
 rcases h.2 with ⟨rfl,_⟩ | ⟨g',cap,cur,rfl,_,hh,_⟩
 ·simp [Value.ownBlock]
 ·intro he
  have:g'=g:=by simpa [Value.ownBlock] using he
  subst this
  exact Blk.ne_ (t:=e) hh hg hne rfl
theorem own_own_ne {base base':Nat} {e e':TypeId} {size size' n n':Nat} {v v':Value} {xs xs':List Value} (h:w.ownsRow base e size v n xs) (h':w.ownsRow base' e' size' v' n' xs') (hne:e≠e') {k:Nat} (hk:v.ownBlock=some k):v'.ownBlock≠some k:=by
 rcases h.2 with ⟨rfl,_⟩ | ⟨g',cap,cur,rfl,_,hh,_⟩
 ·simp [Value.ownBlock] at hk
 ·simp [Value.ownBlock] at hk
  subst hk
  exact own_blk_ne h' hh (fun e=>hne e.symm)
end
def digB (c:Int):Bool:=decide (48<=c/\c<=57)
def hexI (c:Int):Int:=if 48<=c/\c<=57 then c - 48 else if 97<=c/\c<=102 then c - 87 else if 65<=c/\c<=70 then c - 55 else -1
theorem hexI_bd (c:Int) : -1<=hexI c/\hexI c<=15:=by unfold hexI;split<;>(try split)<;>(try split)<;>omega
def bt (l:List UInt8) (k:Nat):Int:=(l.getD k 0).toNat
theorem bt_bd (l:List UInt8) (k:Nat):0<=bt l k/\bt l k<=255:=by
 unfold bt;have:=(l.getD k 0).toNat_lt;omega
theorem bt_of (s:ByteArray) (k:Nat) (h:k<s.size):((s[k]'h).toNat:Int)=bt s.data.toList k:=by
 unfold bt
 have h':k<s.data.size:=h
 have e:s.data.toList.getD k 0=s[k]'h:=by
  rw[List.getD_eq_getElem?_getD,Array.getElem?_toList,Array.getElem?_eq_getElem h']
  rfl
 rw[e]
def scanB (l:List UInt8):Int × Int :=
 if bt l 0≠92 then (if bt l 0<32 then (0,0) else if 126<bt l 0 then (0,0) else (bt l 0,1))
 else if (l.length:Int)<2 then (0,0)
 else if bt l 1=34∨bt l 1=92 then (bt l 1,2)
 else if bt l 1=110 then (10,2)
 else if bt l 1=116 then (9,2)
 else if bt l 1=120 then
  if (l.length:Int)<4 then (0,0)
  else if hexI (bt l 2)<0 then (0,0) else if hexI (bt l 3)<0 then (0,0)
  else (hexI (bt l 2) * 16+hexI (bt l 3),4)
 else (0,0)
end Go.Proofs.YtgopfpjinohncaaGreatDoor
namespace Go.Proofs.YtgopfpjinohncaaGreatDoor
open Go.RowKit
set_option linter.unusedVariables false
theorem scanB_bd (l:List UInt8) (hl:l≠[]):(0<=(scanB l).1/\(scanB l).1<=255)/\0<=(scanB l).2/\(scanB l).2<=4/\(scanB l).2.toNat<=l.length:=by
 have h0:=bt_bd l 0
 have h1:=bt_bd l 1
 have h2:=hexI_bd (bt l 2)
 have h3:=hexI_bd (bt l 3)
 have hlen:1<=l.length:=List.length_pos_iff.2 hl
 unfold scanB
 repeat' split
 all_goals (simp only[];omega)
def textScan (l:List UInt8):Option (List UInt8 × Nat) :=
 if h:l=[] then none
 else if bt l 0=34 then some ([],0)
 else if hn:(scanB l).2=0 then none
 else match textScan (l.drop (scanB l).2.toNat) with
  | none=>none
  | some (t,n)=>some (UInt8.ofNat (scanB l).1.toNat::t,n+(scanB l).2.toNat)
termination_by l.length
decreasing_by
 have hb:=scanB_bd l h
 have hlen:1<=l.length:=List.length_pos_iff.2 h
 rw[List.length_drop]
 omega
theorem textScan_nil:textScan []=none:=by rw[textScan];simp
theorem textScan_quote {l:List UInt8} (h:l≠[]) (hq:bt l 0=34):textScan l=some ([],0):=by rw[textScan,dif_neg h,if_pos hq]
theorem textScan_bad {l:List UInt8} (h:l≠[]) (hq:bt l 0≠34) (hn:(scanB l).2=0):textScan l=none:=by rw[textScan,dif_neg h,if_neg hq,dif_pos hn]
theorem textScan_step {l:List UInt8} (h:l≠[]) (hq:bt l 0≠34) (hn:(scanB l).2≠0) :
 textScan l=(textScan (l.drop (scanB l).2.toNat)).map fun p=>(UInt8.ofNat (scanB l).1.toNat::p.1,p.2+(scanB l).2.toNat):=by
 conv=>lhs;rw[textScan,dif_neg h,if_neg hq,dif_neg hn]
 cases textScan (l.drop (scanB l).2.toNat)<;>rfl
structure Res where
 k:Int
 n:Int
 t:List UInt8
 stop:Int
 e:Int
def bad (e:Int):Res:=⟨0,0,[],0,e⟩
def textR (l:List UInt8) (at_:Int):Res :=
 match textScan l with
 | none=>bad 11
 | some (t,n)=>if 64<t.length then bad 13 else ⟨2,0,t,at_+n+1,0⟩
theorem drop_ne {l:List UInt8} {k:Nat} (h:k<l.length):l.drop k≠[]:=by simp;omega
theorem bt_drop (l:List UInt8) (k j:Nat):bt (l.drop k) j=bt l (k+j):=by
 simp [bt,List.getD]
structure Glob (w:World):Prop where
 syn:∃ tp p,w.var? Tryz.prog "strconv.ErrSyntax" = some #[.iface tp p]
 rng:∃ tp p,w.var? Tryz.prog "strconv.ErrRange" = some #[.iface tp p]
 tab:Lib.TabIs Tryz.prog w "internal/strconv.uint64pow10" .u64 Lib.pow10Tab
 many:6+1<=w.heap.size
theorem Glob.below {w w':World} (h:Glob w) (hb:Below w.heap.size w w'):Glob w':=by
 have hm:=h.many
 obtain⟨tp,p,h1⟩:=h.syn
 obtain⟨tq,q,h2⟩:=h.rng
 exact⟨⟨tp,p,var?_below hb (g:=5) (by kernel_rfl) (by omega) h1⟩,⟨tq,q,var?_below hb (g:=6) (by kernel_rfl) (by omega) h2⟩,
  var?_below hb (g:=1) (by kernel_rfl) (by omega) h.tab,Nat.le_trans hm hb.size⟩
def digs (l:List UInt8):Nat:=(l.takeWhile fun c=>digB c.toNat).length
theorem digs_le (l:List UInt8):digs l<=l.length:=by
 unfold digs
 induction l with
 | nil=>simp
 | cons a l ih =>
   rw[List.takeWhile_cons]
   split
   ·simp;exact ih
   ·simp
def numTok (l:List UInt8) (a:Nat):List UInt8:=(l.drop a).take (1+digs (l.drop (a+1)))
def numR (l:List UInt8) (a:Nat):Res :=
 if bt (Lib.trimPrefix (numTok l a) [45]) 0=48/\1<(numTok l a).length then bad 12
 else match Lib.parseIntB 64 (numTok l a) with
  | .ok v=>⟨1,v,[],a+(numTok l a).length,0⟩
  | _=>bad 12
theorem numTok_len {l:List UInt8} {a:Nat} (h:a<l.length):(numTok l a).length=1+digs (l.drop (a+1)):=by
 have:=digs_le (l.drop (a+1))
 rw[List.length_drop] at this
 unfold numTok
 rw[List.length_take,List.length_drop]
 omega
structure Tok where
 k:Int
 x:List UInt8
 vk:Int
 vn:Int
 vt:List UInt8
 p:Int
def tok0:Tok:=⟨0,[],0,0,[],0⟩
def endTok (n:Nat):Tok:=⟨0,[],0,0,[],n⟩
def Tok.v (t:Tok):Value:=.agg #[.int .i64 t.k,.string ⟨t.x.toArray⟩,.int .i64 t.vk,.int .i64 t.vn,.string ⟨t.vt.toArray⟩,.int .i64 t.p]
def Tok.cells (t:Tok):List Value:=[.int .i64 t.k,.string ⟨t.x.toArray⟩,.int .i64 t.vk,.int .i64 t.vn,.string ⟨t.vt.toArray⟩,.int .i64 t.p]
def tcells (ts:List Tok):List Value:=ts.flatMap Tok.cells
theorem tcells_snoc (ts:List Tok) (t:Tok):tcells (ts++[t])=tcells ts++t.cells:=by simp [tcells]
theorem tcells_len (ts:List Tok):(tcells ts).length=ts.length * 6:=by
 unfold tcells
 induction ts with
 | nil=>rfl
 | cons a l ih=>simp [List.flatMap_cons,Tok.cells,ih];omega
theorem tcells_at (ts:List Tok) (i:Nat) (t:Tok) (h:ts[i]? = some t) :
 (tcells ts)[i * 6]? = some (.int .i64 t.k)/\(tcells ts)[i * 6+1]? = some (.string ⟨t.x.toArray⟩)/\(tcells ts)[i * 6+2]? = some (.int .i64 t.vk)/\(tcells ts)[i * 6+3]? = some (.int .i64 t.vn)/\(tcells ts)[i * 6+4]? = some (.string ⟨t.vt.toArray⟩)/\(tcells ts)[i * 6+5]? = some (.int .i64 t.p):=by
 unfold tcells
 induction ts generalizing i with
 | nil=>simp at h
 | cons a l ih =>
   cases i with
   | zero=>simp at h;subst h;simp [List.flatMap_cons,Tok.cells]
   | succ i =>
     have:=ih i (by simpa using h)
     simp only[List.flatMap_cons,Tok.cells]
     have e1:(i+1) * 6=i * 6+6:=by omega
     rw[e1]
     simpa using this
variable {P : Program}
theorem mod_setRow (w:World) (b:Nat) (cs:Array Value):Mod (fun k=>k=b) w (w.setRow b cs) :=
 ⟨rfl,rfl,rfl,by simp [World.setRow],fun i hi hn=>by
  simp only[World.setRow,Array.getElem?_modify]
  rw[if_neg (fun e=>hn e.symm)]⟩
theorem blk_setRow {w:World} {b:Nat} {t:TypeId} {cs0 cs:Array Value} (h:Blk w b t cs0):Blk (w.setRow b cs) b t cs:=by
 unfold Blk at h ⊢
 simp [World.setRow,Array.getElem?_modify,h]
theorem wp_store_blk {op:Oper} {a:Act} {w:World} {K:Act->World->Prop} {Q:Exit->Act->World->Prop} (ty:TypeId) (x y:Operand) (ho:op.op=.store ty x y)
 (b:Nat) (t:TypeId) (cs0 cells:Array Value) (hx:a.eval x=.pointer (some ⟨b,0,none⟩)) (hy:a.eval y=.agg cells) (hb:Blk w b t cs0)
 (hi:(P.info? ty).map (·.size)=some cells.size) (hsz:cs0.size=cells.size) (h1:cells.all (·.oneCell')=true)
 (h:∀ w',Blk w' b t cells->Mod (fun k=>k=b) w w'->w'.heap.size=w.heap.size->K (a.put op.dst undef) w'):op.wp P a w K Q:=by
 unfold Oper.wp execOp
 simp only[ho,hx,hy,Instr.storeAt,Instr.sureAddr,Sem.run_bind,Sem.run_pure,Result.andThen_ok,run_storeVar_row (P:=P) w b t ty cs0 cells hb hi hsz h1]
 exact h _ (blk_setRow hb) (mod_setRow w b cells) (by simp [World.setRow])
theorem wpList_store_blk {ops:Array Oper} {rest:List Oper} {op:Oper} {a:Act} {w:World} {Q:Exit->Act->World->Prop} (hgd:op.guard=none) (ty:TypeId) (x y:Operand) (ho:op.op=.store ty x y)
 (b:Nat) (t:TypeId) (cs0 cells:Array Value) (hx:a.eval x=.pointer (some ⟨b,0,none⟩)) (hy:a.eval y=.agg cells) (hb:Blk w b t cs0)
 (hi:(P.info? ty).map (·.size)=some cells.size) (hsz:cs0.size=cells.size) (h1:cells.all (·.oneCell')=true)
 (h:∀ w',Blk w' b t cells->Mod (fun k=>k=b) w w'->w'.heap.size=w.heap.size->wpList P ops Q rest (a.put op.dst undef) w'):wpList P ops Q (op::rest) a w :=
 wpList_plain hgd fun _ hK=>wp_store_blk ty x y ho b t cs0 cells hx hy hb hi hsz h1 fun w' h2 h3 h4=>hK _ _ (h w' h2 h3 h4)
theorem Mod.own {b:Nat} {w0 w w':World} (h:Below w0.heap.size w0 w) (hm:Mod (fun k=>k=b) w w') (hb:w0.heap.size<=b):Below w0.heap.size w0 w' :=
 ⟨hm.os.trans h.os,hm.tape.trans h.tape,hm.output.trans h.output,Nat.le_trans h.size hm.size,fun i hi =>
  (hm.block i (by have hs:=h.size;omega) (by omega)).trans (h.block i hi)⟩
def numAt (r:List UInt8):Bool:=decide (0<r.length/\digB (bt r 0)=true∨1<r.length/\bt r 0=45/\digB (bt r 1)=true)
def scanR (l:List UInt8) (at_:Int):Res :=
 if at_<0∨(l.length:Int)<at_ then bad 10
 else if Lib.hasPrefix (l.drop at_.toNat) [34] then textR (l.drop (at_.toNat+1)) (at_+1)
 else if numAt (l.drop at_.toNat) then numR l at_.toNat
 else bad 11
end Go.Proofs.YtgopfpjinohncaaGreatDoor
