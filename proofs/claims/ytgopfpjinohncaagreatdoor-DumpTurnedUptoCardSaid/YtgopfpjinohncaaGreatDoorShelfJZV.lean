/- DERIVED: THE SHELF's CONTRACTS AT THIS DUMP, IN PLAIN WORDS (tools/lay-plain.mjs out of 'TryzShelfCutJ.lean', which tools/lay-shelf.mjs wrote): THE SAME DECLARATIONS UNDER THE SAME NAMES: 'import', 'namespace', 'open', 'def', 'theorem' AND NOTHING ELSE: no command of the shelf's: FOR A HAND-IN. Each laying: the table of numbers ('.._ren') and one theorem, a field a fact of the dump's own or the ke -/
import Derived.Test.YtgopfpjinohncaaGreatDoorProg
import Derived.Test.YtgopfpjinohncaaGreatDoorSt0ZV
import Derived.Test.YtgopfpjinohncaaGreatDoorGbV
import Derived.Shelf.Strings.Builder1
import Derived.Shelf.Strings.Builder2
import Derived.Shelf.Strings.OnBuilder
import Derived.MapKept
import Derived.WideMake
import Derived.Shelf.Abstract
/-
 DERIVED: THE SHELF's CONTRACTS AT THIS DUMP,IN PLAIN WORDS (tools/lay-plain.mjs out of 'TryzShelfCutJ.lean',which tools/lay-shelf.mjs wrote): THE SAME DECLARATIONS UNDER THE SAME NAMES: 'import','namespace','open','def','theorem' AND NOTHING ELSE: no command of the shelf's: FOR A HAND-IN. Each laying: the table of numbers ('.._ren') and one theorem,a field a fact of the dump's own or the kernel's comparison;each contract: ONE APPLICATION.
-/
namespace Go.Proofs
open Go.Shelf
def Tryz.lays156_ren:Go.Shelf.Ren:=⟨fun | 156=>149 | 165=>204 | 166=>91 | 169=>89 | 240=>172 | 241=>252 | 276=>217 | 277=>284 | n=>n,fun | 31=>28 | 9=>9 | 3=>3 | 4=>4 | 0=>0 | 20=>20 | 72=>156 | 76=>161 | 70=>153 | 37=>154 | 75=>160 | 127=>259 | 164=>298 | 5=>5 | 80=>158 | n=>n,fun | n=>n⟩
theorem Tryz.lays156:Go.Proofs.Lays.n156 Tryz.prog Tryz.lays156_ren := {
 mixed:=by kernel_rfl
 f156:=Tryz.func149.trans (congrArg some (by kernel_rfl))
 f165:=Tryz.func204.trans (congrArg some (by kernel_rfl))
 f166:=Tryz.func91.trans (congrArg some (by kernel_rfl))
 f169:=Tryz.func89.trans (congrArg some (by kernel_rfl))
 f240:=Tryz.func172.trans (congrArg some (by kernel_rfl))
 f241:=Tryz.func252.trans (congrArg some (by kernel_rfl))
 f276:=Tryz.func217.trans (congrArg some (by kernel_rfl))
 f277:=Tryz.func284.trans (congrArg some (by kernel_rfl))
 t0:=Tryz.underlying0
 a0:=Tryz.isAgg0
 z0:=Tryz.sizeOf0
 v0:=Tryz.zeroValue0
 t3:=Tryz.underlying3
 a3:=Tryz.isAgg3
 z3:=Tryz.sizeOf3
 v3:=Tryz.zeroValue3
 t4:=Tryz.underlying4
 a4:=Tryz.isAgg4
 z4:=Tryz.sizeOf4
 v4:=Tryz.zeroValue4
 t9:=Tryz.underlying9
 a9:=Tryz.isAgg9
 z9:=Tryz.sizeOf9
 v9:=Tryz.zeroValue9
 t20:=Tryz.underlying20
 a20:=Tryz.isAgg20
 z20:=Tryz.sizeOf20
 v20:=Tryz.zeroValue20
 t31:=Tryz.underlying28
 a31:=Tryz.isAgg28
 z31:=Tryz.sizeOf28
 v31:=Tryz.zeroValue28
 t37:=Tryz.underlying154
 a37:=Tryz.isAgg154
 z37:=Tryz.sizeOf154
 v37:=Tryz.zeroValue154
 t70:=Tryz.underlying153
 a70:=Tryz.isAgg153
 z70:=Tryz.sizeOf153
 v70:=Tryz.zeroValue153
 t72:=Tryz.underlying156
 a72:=Tryz.isAgg156
 z72:=Tryz.sizeOf156
 v72:=Tryz.zeroValue156
 t75:=Tryz.underlying160
 a75:=Tryz.isAgg160
 z75:=Tryz.sizeOf160
 v75:=Tryz.zeroValue160
 t76:=Tryz.underlying161
 a76:=Tryz.isAgg161
 z76:=Tryz.sizeOf161
 v76:=Tryz.zeroValue161
 t127:=Tryz.underlying259
 a127:=Tryz.isAgg259
 z127:=Tryz.sizeOf259
 v127:=Tryz.zeroValue259
 t164:=Tryz.underlying298
 a164:=Tryz.isAgg298
 z164:=Tryz.sizeOf298
 v164:=Tryz.zeroValue298 }
theorem Tryz.Builder_Extra_156:Builder.Extra Tryz.prog Tryz.lays156_ren := {
 sizeBuilder:=by kernel_rfl
 liesBuilder:=by kernel_rfl
 t5:=Tryz.underlying5
 a5:=Tryz.isAgg5
 z5:=Tryz.sizeOf5
 v5:=Tryz.zeroValue5
 infoByte:=by kernel_rfl
 cellsByte:=by kernel_rfl
 sizeByte:=by kernel_rfl
 neB5:=by decide }
open Go.RowKit in
theorem Tryz.strings_Join_none (a:Option Addr) (c:Nat) (sep:ByteArray) (w:World) :
 Calls Tryz.prog 149 #[.slice a 0 c,.string sep] w fun e w'=>e=.returned (.string ⟨#[]⟩)/\w'=w:=Any.strings_Join_none Tryz.lays156 Tryz.Builder_Extra_156 a c sep w
open Go.RowKit in
theorem Tryz.strings_Join (bk o c:Nat) (xs:List ByteArray) (sep:ByteArray) (w:World) (hcells:∀ (j:Nat) x,xs[j]? = some x->w.cell? ⟨bk,o+j,none⟩=some (.string x)) (hbk:bk<w.heap.size) (hN:xs.length<=140737488355328) (hcap:xs.length<=c) (hlen:(Lib.join (xs.map (·.data.toList)) sep.data.toList).length<=140737488355328) :
 Calls Tryz.prog 149 #[.slice (some ⟨bk,o,none⟩) xs.length c,.string sep] w fun e w'=>e=.returned (.string ⟨(Lib.join (xs.map (·.data.toList)) sep.data.toList).toArray⟩)/\Below w.heap.size w w':=Any.strings_Join Tryz.lays156 Tryz.Builder_Extra_156 bk o c xs sep w hcells hbk hN hcap hlen
end Go.Proofs
namespace Go.Proofs.YtgopfpjinohncaaGreatDoor
open Go.RowKit
set_option linter.unusedVariables false
def setMap (w:World) (b:Nat) (es:Array MapEntry) (c:Nat):World := { w with heap:=w.heap.setIfInBounds b (.map es c) }
theorem setMap.modw (w:World) (b:Nat) (es:Array MapEntry) (c:Nat):Mod (fun k=>k=b) w (setMap w b es c) :=
 ⟨rfl,rfl,rfl,by unfold setMap;simp,fun i hi hn=>by
  unfold setMap
  show (w.heap.setIfInBounds b _)[i]? = _
  rw[Array.getElem?_setIfInBounds_ne (fun e=>hn e.symm)]⟩
theorem setMap.at {w:World} {b:Nat} {es es':Array MapEntry} {c c':Nat} (h:MapB w b es c):MapB (setMap w b es' c') b es' c':=by
 unfold setMap MapB
 show (w.heap.setIfInBounds b _)[b]? = _
 rw[Array.getElem?_setIfInBounds_self_of_lt h.lt]
theorem MapB.mod {F:Nat->Prop} {w w':World} {b:Nat} {es:Array MapEntry} {c:Nat} (h:MapB w b es c) (hm:Mod F w w') (hg:¬ F b):MapB w' b es c:=(hm.block b h.lt hg).trans h
theorem MapB.drew {w:World} {b:Nat} {es:Array MapEntry} {c:Nat} (h:MapB w b es c):MapB w.drew b es c:=h
theorem MapB.ne {w:World} {b g:Nat} {t:TypeId} {cs:Array Value} {es:Array MapEntry} {c:Nat} (h:MapB w b es c) (k:Blk w g t cs):b≠g:=by
 rintro rfl
 unfold MapB at h
 unfold Blk at k
 rw[h] at k
 cases k
theorem upd_str {P:Program} {w:World} (mty kt et:TypeId) (r c:Nat) (s:ByteArray) (val:Value) (hm:P.underlying mty=some (.map kt et)) (hk:P.underlying kt=some .string) (hb:MapB w r #[] c) :
 (Instr.mapUpdate mty (.map (some r)) (.string s) val).run P w=.ok () (setMap w r #[{ key:=.string s,val:=val,born:=c }] (c+1)):=run_mapUpdate_first w mty kt et r c s val hm hk hb
theorem upd_int {P:Program} {w:World} (mty kt et:TypeId) (r c:Nat) (n:Int) (val:Value) (hm:P.underlying mty=some (.map kt et)) (hk:P.underlying kt=some (.int .i64)) (hb:MapB w r #[] c) :
 (Instr.mapUpdate mty (.map (some r)) (.int .i64 n) val).run P w=.ok () (setMap w r #[{ key:=.int .i64 n,val:=val,born:=c }] (c+1)):=by
 have hf:Instr.findNow (.int .i64) (.int .i64 n) ([]:List MapEntry) 0=some none:=rfl
 have hc:(Instr.checkKey false 10000 kt (.int .i64 n)).run P w=.ok () w:=MapKept.run_checkKey (k:=.int .i64 n) hk (by simp [MapKept.IsKey]) false 9999
 simp [Instr.mapUpdate,run_underlying hm,MapKept.run_getObj_map hb,hc,MapKept.run_findKey hk hf,MapKept.run_setObj_map _ hb,Result.andThen,setMap]
theorem StE.mod {F:Nat->Prop} {w w':World} {st a1 m1 h1 tb a2 m2 c1:Nat} {mk:Bool} (h:StE w st a1 m1 h1 tb a2 m2 c1 mk) (hm:Mod F w w') (hF:∀ k,st<=k->¬ F k):StE w' st a1 m1 h1 tb a2 m2 c1 mk:=by
 have q:=h.plo
 exact⟨h.pst.mod hm (hF _ (Nat.le_refl _)),h.pa1.mod hm (hF _ (by omega)),h.pm1.mod hm (hF _ (by omega)),h.ph1.mod hm (hF _ (by omega)),hm.ownsRow h.ptb (fun k hk=>by cases hk;exact hF _ q.2.2.2.1),h.pa2.mod hm (hF _ (by omega)),h.pm2.mod hm (hF _ (by omega)),h.pc1.mod hm (hF _ (by omega)),h.pmm,h.plo⟩
set_option maxHeartbeats 4000000 in
set_option maxRecDepth 100000 in
theorem indexN_Str (g:Nat) (lb:Array Value) (eg:∀ args w,(callFunc g args).run Tryz.prog w=.ok (.enter g args) w) (p:Nat->Bool) (w:World) (v:Value) (xs:List (List Value)) (h:RowAt w v 1 xs) (hl:∀ x∈xs,x.length=1)
 (hf:∀ (W:World) (k:Nat) (x:List Value),Below w.heap.size w W->xs[k]? = some x->Calls Tryz.prog g (#[x[0]!]++lb) W fun e W'=>e=.returned (.bool (p k))/\Below W.heap.size W W') :
 Calls Tryz.prog 202 #[v,.func (.func g) #[] lb] w fun e w'=>(∃ q:Int,e=.returned (.int .i64 q)/\decide (0<=q)=(List.range xs.length).any p)/\Below w.heap.size w w':=by
 obtain⟨ad,cap,rfl,hnc,hcm⟩:=h.form
 have hln:=h.len
 have HR:=Lib.hid h
 have HL:=Lib.hid hl
 have HF:=Lib.hid hf
 unfold maxLen at hcm
 generalize hn:xs.length=n at *
 have HN:=Lib.hid hn
 clear h hl hf hn
 go_enter Tryz.func202,Tryz.ntmps202
 go_wp2_with fail
 go_loopw [5,8] (fun _ i wr=>∃ k:Nat,k<=n/\i=.int .i64 k/\Hid (Below w.heap.size w wr)/\Hid (∀ j,j<k->p j=false)) (fun _ i _=>n - (intOf i).toNat)
 case atStart=>exact⟨0,Nat.zero_le _,rfl,Lib.hid (Below.refl _ _),Lib.hid (fun j hj=>by omega)⟩
 case round =>
  obtain⟨k,hk,rfl,HB,HP⟩:=hrel
  by_cases hlt:k<n
  ·obtain⟨x,hx⟩:∃ x,xs[k]? = some x:=⟨xs[k]'(by rw[HN.out];exact hlt),List.getElem?_eq_getElem (by rw[HN.out];exact hlt)⟩
   have hm:x∈xs:=List.mem_of_getElem? hx
   obtain⟨b,off,cap',hv,_,_,hbl,hce⟩:=(HR.out.keep HB.out).get hx
   rw[HN.out] at hv
   simp only[Value.slice.injEq,true_and] at hv
   obtain⟨rfl,rfl⟩:=hv
   obtain⟨e0,rfl⟩:=len1 (HL.out x hm)
   have q0:=hce 0 e0 rfl
   simp only[Nat.mul_one,Nat.add_zero] at q0
   have hcall:=HF.out wr k _ HB.out hx
   clear hce hm hx
   cases hq:p k with
   | true =>
     rw[hq] at hcall
     have HC:=Lib.hid hcall
     have HQ:=Lib.hid hq
     clear hcall hq
     go_wp2_with fail
     refine HC.out.mono ?_
     rintro e w' ⟨rfl,hb'⟩
     have HB':=Lib.hid hb'
     clear hb'
     go_wp2_with fail
     go_ret
     refine⟨⟨k,rfl,?_⟩,HB.out.trans (HB'.out.mono HB.out.size)⟩
     rw[decide_eq_true (Int.natCast_nonneg k)]
     exact (List.any_eq_true.2 ⟨k,List.mem_range.2 hlt,HQ.out⟩).symm
   | false =>
     rw[hq] at hcall
     have HC:=Lib.hid hcall
     have HQ:=Lib.hid hq
     clear hcall hq
     go_wp2_with fail
     refine HC.out.mono ?_
     rintro e w' ⟨rfl,hb'⟩
     have HB':=Lib.hid hb'
     clear hb'
     go_wp2_with fail
     go_roundw
     case rel =>
      refine⟨k+1,by omega,by go_num,Lib.hid (HB.out.trans (HB'.out.mono HB.out.size)),Lib.hid (fun j hj=>?_)⟩
      rcases Nat.lt_or_ge j k with h1 | h1
      ·exact HP.out j h1
      ·obtain rfl:j=k:=by omega
       exact HQ.out
     case measure=>simp [intOf];omega
  ·obtain rfl:k=n:=by omega
   go_wp2_with fail
   go_ret
   refine⟨⟨-1,rfl,?_⟩,HB.out⟩
   rw[show decide ((0:Int) <= -1)=false from by decide]
   refine (List.any_eq_false.2 fun j hj=>?_).symm
   rw[HP.out j (List.mem_range.1 hj)]
   decide
set_option maxHeartbeats 4000000 in
set_option maxRecDepth 100000 in
theorem containsN_Str (g:Nat) (lb:Array Value) (eg:∀ args w,(callFunc g args).run Tryz.prog w=.ok (.enter g args) w) (p:Nat->Bool) (w:World) (v:Value) (xs:List (List Value)) (h:RowAt w v 1 xs) (hl:∀ x∈xs,x.length=1)
 (hf:∀ (W:World) (k:Nat) (x:List Value),Below w.heap.size w W->xs[k]? = some x->Calls Tryz.prog g (#[x[0]!]++lb) W fun e W'=>e=.returned (.bool (p k))/\Below W.heap.size W W') :
 Calls Tryz.prog 214 #[v,.func (.func g) #[] lb] w fun e w'=>e=.returned (.bool ((List.range xs.length).any p))/\Below w.heap.size w w':=by
 have HI:=Lib.hid (indexN_Str g lb eg p w v xs h hl hf)
 clear h hl hf
 generalize (List.range xs.length).any p=R at *
 go_enter Tryz.func214,Tryz.ntmps214
 go_wp2_with fail
 refine HI.out.mono ?_
 rintro e w' ⟨⟨q,rfl,hq⟩,hb'⟩
 have HB':=Lib.hid hb'
 clear hb'
 go_wp2_with fail
 go_ret
 exact⟨by first | rfl | simp,HB'.out⟩
end Go.Proofs.YtgopfpjinohncaaGreatDoor
