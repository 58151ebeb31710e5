/- DERIVED: -/
import Derived.Test.YtgopfpjinohncaaGreatDoorRwsZF
set_option maxHeartbeats 16000000
set_option maxRecDepth 100000
set_option linter.unusedVariables false
/-
 DERIVED: THE SHELF's CONTRACTS AT THIS DUMP,IN PLAIN WORDS (tools/lay-plain.mjs out of 'TryzShelfK.lean',which tools/lay-shelf.mjs wrote): THE SAME DECLARATIONS UNDER THE SAME NAMES: 'import','namespace','open','def','theorem' AND NOTHING ELSE: no command of the shelf's: FOR A HAND-IN. Each laying: the table of numbers ('.._ren') and one theorem,a field a fact of the dump's own or the kernel's comparison;each contract: ONE APPLICATION.
-/
namespace Go.Proofs
open Go.Shelf
def Tryz.lays170_ren:Go.Shelf.Ren:=⟨fun | 170=>88 | n=>n,fun | 70=>153 | 3=>3 | 0=>0 | 72=>156 | 37=>154 | 5=>5 | n=>n,fun | n=>n⟩
theorem Tryz.lays170:Go.Proofs.Lays.n170 prog Tryz.lays170_ren := {
 mixed:=by kernel_rfl
 f170:=func88.trans (congrArg some (by kernel_rfl))
 t0:=underlying0
 a0:=isAgg0
 z0:=sizeOf0
 v0:=zeroValue0
 t3:=underlying3
 a3:=isAgg3
 z3:=sizeOf3
 v3:=zeroValue3
 t37:=underlying154
 a37:=isAgg154
 z37:=sizeOf154
 v37:=zeroValue154
 t70:=underlying153
 a70:=isAgg153
 z70:=sizeOf153
 v70:=zeroValue153
 t72:=underlying156
 a72:=isAgg156
 z72:=sizeOf156
 v72:=zeroValue156 }
theorem Tryz.Builder_Len_f (B b:Nat) (bs:List Value) (w:World) (h:Lib.IsBuilderF 156 5 B b bs w) :
 Calls prog 88 #[.pointer (some ⟨b,0,none⟩)] w fun e w'=>e=.returned (.int .i64 bs.length)/\w'=w:=Any.Builder_Len_f Tryz.lays170 B b bs w h
open Go.RowKit in
theorem Tryz.Builder_String_any_k (B b:Nat) (l:List UInt8) (w:World) (h:Lib.IsBuilderF 156 5 B b (Lib.byteCells l) w) (hBw:B<=w.heap.size) :
 Calls prog 89 #[.pointer (some ⟨b,0,none⟩)] w fun e w'=>e=.returned (.string ⟨l.toArray⟩)/\(Lib.IsBuilderF 156 5 B b (Lib.byteCells l) w'/\Below B w w'/\Lib.OthersKept 5 (some b) w w'):=Any.Builder_String_any_k Tryz.lays169 Tryz.Builder_Extra_169 B b l w h hBw
end Go.Proofs
namespace Go.Proofs.YtgopfpjinohncaaGreatDoor
open Go.Proofs.Tryz
open Go.RowKit
def io (B b:Nat) (l:List UInt8) (w:World):Prop:=Lib.IsBuilderF 156 5 B b (Lib.byteCells l) w
theorem io.at_ {B b:Nat} {l:List UInt8} {w:World} (h:io B b l w):∃ p v,w.heap[b]? = some (.cells #[p,v] 156 (0,0)):=by
 rcases h with ⟨_,v,h,_⟩ | ⟨_,v,h,_⟩
 ·exact⟨_,v,h⟩
 ·exact⟨_,v,h⟩
theorem aV.others {B b:Nat} {w w':World} {v:Value} {l:List (List UInt8)} {bs:List UInt8} (h:aV B w v l) (hb:io B b bs w) (hk:Lib.OthersKept 5 (some b) w w'):aV B w' v l:=by
 refine⟨h.1,?_⟩
 rcases h.2 with h0 | ⟨g,cap,cur,hv,hB,hg,h1,h2,h3,h4⟩
 ·exact .inl h0
 ·refine .inr ⟨g,cap,cur,hv,hB,hk g _ hg ?_ ?_,h1,h2,h3,h4⟩
  ·intro e
   injection e with e
   obtain⟨p,u,hb⟩:=hb.at_
   rw[e,hb] at hg
   injection hg with hg
   injection hg with _ hg _
   exact absurd hg (by decide)
  ·intro c fz e
   injection e with _ e _
   exact absurd e (by decide)
theorem BuilderAtF.grown {T e:TypeId} {B b:Nat} {p:Value} {bs:List Value} {w w':World} {row:Option Nat} (h:Lib.BuilderAtF T e B b p bs w) (hg:w.grownBy w' row) (h1:some b≠row) (h2:∀ g c fz,row=some g->w.heap[g]? ≠ some (.cells c e fz)):Lib.BuilderAtF T e B b p bs w':=by
 obtain⟨hB,v,hb,ho,hne⟩:=h
 refine⟨hB,v,?_,ho.kept hg ?_,hne⟩
 ·have hbl:=(Array.getElem?_eq_some_iff.1 hb).1
  rw[<-hb]
  exact hg.block b hbl h1
 ·rcases hvb:v.ownBlock with _ | g
  ·exact .inl rfl
  ·right
   intro e'
   obtain⟨c,fz,hc⟩:=Lib.ownsRowF_kind ho g hvb
   exact h2 g c fz e'.symm hc
theorem aV.alloc {B:Nat} {w:World} {v:Value} {l:List (List UInt8)} (h:aV B w v l) (o:Obj):(w.alloc o).ownsRow B 9 1 v l.length (l.map fun s=>.string ⟨s.toArray⟩):=World.ownsRow.alloc h o
theorem io.grown {B b:Nat} {w w':World} {v:Value} {l:List (List UInt8)} {bs:List UInt8} (h:io B b bs w) (ho:aV B w v l) (hg:w.grownBy w' v.ownBlock):io B b bs w':=by
 have h1:some b≠v.ownBlock:=by
  intro e
  rcases ho.2 with ⟨h0,_⟩ | ⟨g,cap,cur,hv,_,hgc,_⟩
  ·rw[h0] at e
   simp [Value.ownBlock] at e
  ·rw[hv] at e
   simp only[Value.ownBlock,Option.some.injEq] at e
   obtain⟨p,u,hb⟩:=h.at_
   rw[<-e,hb] at hgc
   injection hgc with hgc
   injection hgc with _ hgc _
   exact absurd hgc (by decide)
 have h2:∀ g c fz,v.ownBlock=some g->w.heap[g]? ≠ some (.cells c 5 fz):=by
  intro g c fz e hc
  rcases ho.2 with ⟨h0,_⟩ | ⟨g',cap,cur,hv,_,hgc,_⟩
  ·rw[h0] at e
   simp [Value.ownBlock] at e
  ·rw[hv] at e
   simp only[Value.ownBlock,Option.some.injEq] at e
   rw[e,hc] at hgc
   injection hgc with hgc
   injection hgc with _ hgc _
   exact absurd hgc (by decide)
 exact h.imp (fun q=>BuilderAtF.grown q hg h1 h2) (fun q=>BuilderAtF.grown q hg h1 h2)
theorem BuilderAtF.below {T e:TypeId} {B b:Nat} {p:Value} {bs:List Value} {w w':World} (h:Lib.BuilderAtF T e B b p bs w) (hb:Below w.heap.size w w'):Lib.BuilderAtF T e B b p bs w':=by
 obtain⟨hB,v,hbk,ho,hne⟩:=h
 refine⟨hB,v,(hb.block b (Array.getElem?_eq_some_iff.1 hbk).1).trans hbk,⟨ho.1,?_⟩,hne⟩
 rcases ho.2 with h0 | ⟨g,cap,cur,fz,hv,hB2,hg,hr⟩
 ·exact .inl h0
 ·exact .inr ⟨g,cap,cur,fz,hv,hB2,(hb.block g (Array.getElem?_eq_some_iff.1 hg).1).trans hg,hr⟩
theorem io.below {B b:Nat} {bs:List UInt8} {w w':World} (h:io B b bs w) (hb:Below w.heap.size w w'):io B b bs w':=h.imp (fun q=>BuilderAtF.below q hb) (fun q=>BuilderAtF.below q hb)
theorem io.alloc {B b:Nat} {bs:List UInt8} {w:World} (h:io B b bs w) (o:Obj):io B b bs (w.alloc o):=Lib.IsBuilderF.alloc h o
theorem io.fresh {B b:Nat} {w:World} (hB:B<=b) (h:w.heap[b]? = some (.cells #[.pointer none,.slice none 0 0] 156 (0,0))):io B b [] w :=
 .inl ⟨hB,_,h,World.ownsRowF_nil _ _ _ _,by simp [Value.ownBlock]⟩
theorem pn (B b:Nat) (l:List UInt8) (w:World) (h:io B b l w) :
 Calls prog 90 #[.pointer (some ⟨b,0,none⟩)] w fun e w'=>e=.returned (.tuple #[])/\io B b [] w'/\Below B w w'/\Lib.OthersKept 5 (some b) w w':=by
 obtain⟨p,v,hb⟩:=h.at_
 have hB:B<=b:=h.elim (fun q=>q.1) (fun q=>q.1)
 have c0:w.cell? ⟨b,0,none⟩=some p:=by simp [World.cell?,hb]
 have c1:w.cell? ⟨b,1,none⟩=some v:=by simp [World.cell?,hb]
 have f0:w.frozen? ⟨b,0,none⟩=false:=by simp [World.frozen?,hb]
 have f1:w.frozen? ⟨b,1,none⟩=false:=by simp [World.frozen?,hb]
 have bl:=(Array.getElem?_eq_some_iff.1 hb).1
 obtain⟨W,hW⟩:∃ W,(w.setCell ⟨b,0,none⟩ (.pointer none)).setCell ⟨b,1,none⟩ (.slice none 0 0)=W:=⟨_,rfl⟩
 have hbW:W.heap[b]? = some (.cells #[.pointer none,.slice none 0 0] 156 (0,0)):=by
  rw[<-hW]
  have h1:=((show af w b 156 #[p,v] from hb).set_ 0 (.pointer none)).set_ 1 (.slice none 0 0)
  have h2:af ((w.setCell ⟨b,0,none⟩ (.pointer none)).setCell ⟨b,1,none⟩ (.slice none 0 0)) b 156 #[.pointer none,.slice none 0 0]:=by simpa using h1
  exact h2
 have hbe:Below B w W:=by rw[<-hW];exact ((Below.refl B w).setCell (p:=⟨b,0,none⟩) hB _).setCell (p:=⟨b,1,none⟩) hB _
 have hok:Lib.OthersKept 5 (some b) w W:=by rw[<-hW];exact ((Lib.OthersKept.refl _ _ w).setCell ⟨b,0,none⟩ rfl _).setCell ⟨b,1,none⟩ rfl _
 have HW:=Fx (And.intro hW (And.intro hbW (And.intro hbe hok)))
 clear hW hbW hbe hok h hb
 go_enter func90,ntmps90
 go_wp2_with fail
 go_end0
 rw[HW.out.1]
 exact⟨rfl,io.fresh hB HW.out.2.1,HW.out.2.2.1,HW.out.2.2.2⟩
theorem mO (B b:Nat) (bs:List Value) (w:World) (h:Lib.IsBuilderF 156 5 B b bs w) :
 Calls prog 172 #[.pointer (some ⟨b,0,none⟩)] w fun e w'=>e=.returned (.tuple #[])/\(Lib.BuilderAtF 156 5 B b (.pointer (some ⟨b,0,none⟩)) bs w'/\Below B w w'/\Lib.OthersKept 5 (some b) w w'):=by
 rcases h with h | h
 ·refine (g9 b w h.cell0 h.shape h.frozen0).mono ?_
  rintro e w' ⟨rfl,rfl⟩
  exact⟨rfl,h.used _,(Below.refl B w).setCell (p:=⟨b,0,none⟩) h.1 _,(Lib.OthersKept.refl _ _ w).setCell ⟨b,0,none⟩ rfl _⟩
 ·refine (ij b w h.cell0).mono ?_
  rintro e w' ⟨rfl,rfl⟩
  exact⟨rfl,h,Below.refl B w,Lib.OthersKept.refl _ _ w⟩
theorem aZ (B b:Nat) (bs:List Value) (s:ByteArray) (w:World) (h:Lib.IsBuilderF 156 5 B b bs w) (hlen:bs.length+s.size<=140737488355328) (hBw:B<=w.heap.size) :
 Calls prog 91 #[.pointer (some ⟨b,0,none⟩),.string s] w fun e w'=>e=.returned (.tuple #[.int .i64 s.size,.nilIface])/\(Lib.BuilderAtF 156 5 B b (.pointer (some ⟨b,0,none⟩)) (bs++Lib.strCells s) w'/\Below B w w'/\Lib.OthersKept 5 (some b) w w'):=by
 obtain⟨i0,hi,hz0,hz1,hz2⟩:=info_parts og
 have HH:=Fx h
 clear h
 go_enter func91,ntmps91
 go_wp2_with fail
 refine (mO B b bs _ HH.out).mono ?_
 rintro e w1 ⟨rfl,h1,hb1,hk1⟩
 obtain⟨hB,v,hbk,hown,hne⟩:=h1
 have c0:w1.cell? ⟨b,0,none⟩=some (.pointer (some ⟨b,0,none⟩)):=by rw[Lib.cell_of_heap hbk];rfl
 have c1:w1.cell? ⟨b,1,none⟩=some v:=by rw[Lib.cell_of_heap hbk];rfl
 have HK:=Fx hbk
 have HO:=Fx hown
 have HN:=Fx hne
 have HK1:=Fx hk1
 clear hbk hown hne hk1
 go_wp2_with (at_builtin;refine Lib.wpList_append_own_stringF _ rfl _ _ 154 9 rfl B 5 i0 underlying154 underlying9 hi hz0 hz1 hz2 _ _ _ rfl HO.out s rfl ?c3 ?c4 ?c5 ?_)
 case c3=>unfold maxLen;omega
 case c4=>omega
 case c5=>have:=hb1.size;omega
 intro v' w2 hown' hgrow _
 have hlt:b<w1.heap.size:=by
  rcases Nat.lt_or_ge b w1.heap.size with h' | h'
  ·exact h'
  ·have:=HK.out;simp [Array.getElem?_eq_none h'] at this
 have hb2:w2.heap[b]? = some (.cells #[.pointer (some ⟨b,0,none⟩),v] 156 (0,0)):=by
  rw[hgrow.block b hlt (fun e=>HN.out e.symm)]
  exact HK.out
 have d0:w2.cell? ⟨b,0,none⟩=some (.pointer (some ⟨b,0,none⟩)):=by rw[Lib.cell_of_heap hb2];rfl
 have d1:w2.cell? ⟨b,1,none⟩=some v:=by rw[Lib.cell_of_heap hb2];rfl
 have f1:w2.frozen? ⟨b,1,none⟩=false:=Lib.frozen_of_heap hb2 1
 obtain⟨ao,n',cap,rfl⟩:∃ ao n' cap,v'=.slice ao n' cap:=by
  rcases hown'.2 with ⟨e,_⟩ | ⟨g,cap,cur,fz,e,_⟩
  ·exact⟨_,_,_,e⟩
  ·exact⟨_,_,_,e⟩
 have HB2:=Fx hb2
 have HO2:=Fx hown'
 clear hb2 hown'
 go_wp2_with fail
 go_ret2
 refine⟨rfl,?_,?_,(HK1.out.grown hgrow (Lib.ownsRowF_kind HO.out)).setCell ⟨b,1,none⟩ rfl _⟩
 ·exact Lib.BuilderAtF.put (T:=156) (e:=5) hB HB2.out (bs':=bs++Lib.strCells s) (by simpa [Lib.strCells_length] using HO2.out) (by decide)
 ·exact (hb1.grown hgrow (by have:=hb1.size;omega) (fun k hk=>(HO.out.lt k hk).1)).setCell (p:=⟨b,1,none⟩) hB _
theorem En {x:List UInt8} {rows:List (List Vl)} {k:Nat} {r:List Vl} (h:rows[k]? = some r) (line:List UInt8) (n:Nat):jr x line n (rows.drop k) =
 if n=256∨(0<n/\16384<line.length+2+(bi x r).length) then line::jr x ([98,97,116,99,104,32]++bi x r) 1 (rows.drop (k+1))
 else if n=0 then jr x (line++[98,97,116,99,104,32]++bi x r) 1 (rows.drop (k+1))
 else jr x (line++[44,32]++bi x r) (n+1) (rows.drop (k+1)):=by
 have hd:rows.drop k=r::rows.drop (k+1):=by
  rw[<- (FE h).2,List.getElem_cons_drop]
 rw[hd]
 rfl
theorem dK (l:List UInt8) (s:ByteArray):Lib.byteCells l++Lib.strCells s=Lib.byteCells (l++s.data.toList):=by
 simp [Lib.byteCells,Lib.strCells]
theorem sd (w:World) (x:List UInt8) (rv:Value) (rows:List (List Vl)) (h:cq w rv rows) (hR:∀ r∈rows,∀ u∈r,bG u) (hW:∀ r∈rows,(bi x r).length<=1048576) (hl:rows.length<=1099511627776) (hg:bY w) :
 Calls prog 32 #[.string ⟨x.toArray⟩,rv] w fun e w'=>∃ v,e=.returned v/\aV w.heap.size w' v (jr x [] 0 rows)/\Below w.heap.size w w':=by
 obtain⟨i0,hi0,hz0,hz1,hz2⟩:=info_parts Tryz.infoStr
 obtain⟨ra,rc,rfl,hrn,hrm⟩:=h.form
 unfold maxLen at hrm
 have HROW:=Fx h
 have HRB:=Fx hR
 have HWB:=Fx hW
 have HSH:=Fx (fun W (hW:Below w.heap.size w W) rv (r:List Vl) (hr:aj W rv 3 (r.map Vl.cells)) (hrb:∀ u∈r,bG u)=>mc W rv r hr hrb (hg.below hW))
 obtain⟨ALL,hALL⟩:∃ ALL,ALL=jr x [] 0 rows:=⟨_,rfl⟩
 rw[<-hALL]
 have HALL:=Fx hALL
 clear h hR hW hg hALL
 generalize hN:rows.length=n at *
 have HN:=Fx hN
 clear hN
 go_enter func32,ntmps32
 have hfr:io w.heap.size w.heap.size [] (w.alloc (.cells #[.pointer none,.slice none 0 0] 156)):=io.fresh FA (heap_alloc_new w _)
 have HFR:=Fx hfr
 clear hfr
 go_wp2_with fail
 go_loopw [5,7,13] (fun ov nv iv wr=>∃ (k c:Nat) (line:List UInt8) (o:List (List UInt8)) (oa:Option Addr) (oc:Nat),k<=n/\iv=.int .i64 k/\nv=.int .i64 c/\ov=.slice oa o.length oc/\Hid (aV w.heap.size wr (.slice oa o.length oc) o)/\Hid (io w.heap.size w.heap.size line wr)/\Hid (Below w.heap.size w wr)/\Hid (ALL=o++jr x line c (rows.drop k))/\c<=256/\Hid (line.length<=4194304/\(c=0->line=[]))/\o.length<=k) (fun _ _ i _=>n - (intOf i).toNat)
 case atStart=>exact⟨0,0,[],[],none,0,Fz,rfl,rfl,rfl,Fx (World.ownsRow_nil _ _ _ _),HFR,Fx (ae Fy _),HALL,Fz,Fx ⟨Fz,fun _=>rfl⟩,FA⟩
 case round =>
  obtain⟨k,c,line,o,oa,oc,hk,rfl,rfl,rfl,OW,BD,HB,HE,hc,HL,hol⟩:=hrel
  obtain⟨wo,rfl⟩:∃ wo:World,wo=wr:=⟨_,rfl⟩
  by_cases hlt:k<n
  ·obtain⟨r,hr⟩:∃ r,rows[k]? = some r:=⟨rows[k]'(by rw[HN.out];exact hlt),FD (by rw[HN.out];exact hlt)⟩
   have hat:=En hr (x:=x) line c
   have hmem:=FC hr
   have hRg:=(HROW.out.keep HB.out).get hr
   rw[HN.out] at hRg
   obtain⟨b3,o3,c3,zv,hv3,_,_,hl3,z0,hzr,_⟩:=hRg
   simp only[Value.slice.injEq,true_and] at hv3
   obtain⟨rfl,rfl⟩:=hv3
   simp only[Nat.mul_one] at z0
   have hsh:=HSH.out wo HB.out _ r hzr (HRB.out r hmem)
   obtain⟨za,zc,rfl,_,_⟩:=hzr.form
   have hwl:=HWB.out r hmem
   have hct:⟨#[43]⟩++(⟨x.toArray⟩:ByteArray)++⟨(bW r).toArray⟩=⟨(bi x r).toArray⟩:=by
    apply ByteArray.ext
    simp [bi]
   have zx:(⟨x.toArray⟩:ByteArray).size=x.length:=by simp [ByteArray.size]
   have zt:(⟨(bW r).toArray⟩:ByteArray).size=(bW r).length:=by simp [ByteArray.size]
   have zw:(bi x r).length=1+x.length+(bW r).length:=by simp [bi];omega
   have hl1:¬ 9223372036854775807<1+x.length:=by omega
   have hl2:¬ 9223372036854775807<1+x.length+(bW r).length:=by omega
   have wz:(⟨(bi x r).toArray⟩:ByteArray).size=(bi x r).length:=by simp [ByteArray.size]
   obtain⟨wd,hwd⟩:∃ wd:ByteArray,(⟨(bi x r).toArray⟩:ByteArray)=wd:=⟨_,rfl⟩
   obtain⟨wp,hwp⟩:∃ wp,bi x r=wp:=⟨_,rfl⟩
   have hwt:wd.data.toList=wp:=by rw[<-hwd,<-hwp]
   rw[hwd] at hct wz
   rw[hwp] at wz zw hwl hat
   have HSW:=Fx hsh
   have HAT:=Fx hat
   have HCT:=Fx hct
   have HWT:=Fx hwt
   have HWL:=Fx hwl
   have hdk:decide ((k:Int)<0)=false:=by simp
   have hdn:decide ((n:Int)<=(k:Int))=false:=by simp;omega
   clear hr hat hmem hzr hsh hct hwd hwp hwt
   generalize bW r=sr at *
   generalize (r.map Vl.cells).length=rn at *
   go_wp2_with fail
   refine HSW.out.mono ?_
   rintro e w1 ⟨rfl,hb1⟩
   have hB1:=HB.out.trans (hb1.mono HB.out.size)
   have OW1:Hid (aV w.heap.size w1 (.slice oa o.length oc) o):=Fx ((MT.ofBelow (B:=0) (Ts:=[]) hb1).ownsRow OW.out (by simp))
   have BD1:Hid (io w.heap.size w.heap.size line w1):=Fx (BD.out.below hb1)
   have HB1:=Fx hB1
   clear hb1 hB1 OW BD HB z0 hl3 HSW
   go_upto_region 8 with fail
   rw[HCT.out]
   clear HCT zx zt hl1 hl2 zw
   have hLL:=HL.out.1
   generalize hLn:line.length=LL at *
   generalize hWn:wp.length=WL at *
   have hw1:IntKind.i64.wrap ((LL:Int)+2)=(LL:Int)+2:=by rw[IntKind.wrap_i64];omega
   have hw2:IntKind.i64.wrap ((LL:Int)+2+(WL:Int))=(LL:Int)+2+(WL:Int):=by rw[IntKind.wrap_i64];omega
   have hbl:(Lib.byteCells line).length=LL:=by rw[Lib.byteCells_length];exact hLn
   have HLN:=Fx (And.intro hLn hWn)
   by_cases hc256:c=256
   ·subst hc256
    go_wp2_with fail
    refine (Tryz.Builder_String_any_k w.heap.size w.heap.size line _ BD1.out HB1.out.size).mono ?_
    rintro e w2 ⟨rfl,hbd,hb,hok⟩
    have OW2:=Fx (OW1.out.others BD1.out hok)
    have BD2:Hid (io w.heap.size w.heap.size line w2):=Fx hbd
    have HB2:=Fx (HB1.out.trans hb)
    clear hbd hb hok OW1 BD1 HB1
    go_wp2_with (at_builtin;refine wpList_append_lies _ rfl (.tmp 36) (.tmp 38) 28 rfl w.heap.size 9 i0 (.string ⟨#[]⟩) 1 16 underlying28 hi0 hz0 hz1 hz2 rfl (by decide) (.slice oa o.length oc) o.length _ rfl (OW2.out.alloc _) ⟨_,0,none⟩ 1 1 [.string ⟨line.toArray⟩] rfl rfl (World.news_of_block (af.new _ _ _)) (by simp [Value.oneCell']) (by decide) ?c3 ?c5 ?c4 _ rfl ?_)
    case c3=>unfold maxLen;omega
    case c5=>omega
    case c4=>have:=HB2.out.size;simp;omega
    intro g cap1 w3 hown2 hgrow2 hat2 hlt2
    have hbz:=HB2.out.size
    have HB3:=Fx ((ae HB2.out _).grown hgrow2 (by simp;omega) (fun q hq=>(World.ownsRow.lt OW2.out q hq).1))
    have BD3:Hid (io w.heap.size w.heap.size line w3):=Fx ((BD2.out.alloc _).grown (show aV w.heap.size _ (.slice oa o.length oc) o from OW2.out.alloc _) hgrow2)
    have OW3:Hid (aV w.heap.size w3 (.slice (some ⟨g,0,none⟩) (o++[line]).length cap1) (o++[line])):=Fx (by
     unfold aV
     simpa using hown2)
    clear hown2 hgrow2 hat2 hlt2 hbz OW2 BD2 HB2
    go_wp2_with fail
    refine (pn w.heap.size w.heap.size line _ BD3.out).mono ?_
    rintro e w4 ⟨rfl,hbd,hb,hok⟩
    have OW4:=Fx (OW3.out.others BD3.out hok)
    have BD4:=Fx hbd
    have HB4:=Fx (HB3.out.trans hb)
    clear hbd hb hok OW3 BD3 HB3
    go_wp2_with fail
    refine (aZ w.heap.size w.heap.size _ ⟨#[98,97,116,99,104,32]⟩ _ BD4.out (by simp [Lib.byteCells_length,ByteArray.size]) HB4.out.size).mono ?_
    rintro e w5 ⟨rfl,hbd,hb,hok⟩
    have OW5:=Fx (OW4.out.others BD4.out hok)
    have BD5:Hid (io w.heap.size w.heap.size [98,97,116,99,104,32] w5):=Fx (by
     rw[dK] at hbd
     exact .inr (by simpa [HWT.out] using hbd))
    have HB5:=Fx (HB4.out.trans hb)
    clear hbd hb hok OW4 BD4 HB4
    go_wp2_with fail
    refine (aZ w.heap.size w.heap.size _ wd _ BD5.out (by rw[Lib.byteCells_length,wz];simp;omega) HB5.out.size).mono ?_
    rintro e w6 ⟨rfl,hbd,hb,hok⟩
    have OW6:=Fx (OW5.out.others BD5.out hok)
    have BD6:Hid (io w.heap.size w.heap.size ([98,97,116,99,104,32]++wp) w6):=Fx (by
     rw[dK] at hbd
     exact .inr (by simpa [HWT.out] using hbd))
    have HB6:=Fx (HB5.out.trans hb)
    clear hbd hb hok OW5 BD5 HB5
    go_wp2_with fail
    go_roundw
    case rel =>
     refine⟨k+1,1,[98,97,116,99,104,32]++wp,o++[line],some ⟨g,0,none⟩,cap1,by omega,by go_num,by first | rfl | go_num,by first | rfl | simp,OW6,BD6,HB6,Fx ?_,by omega,Fx ⟨?_,fun h=>by omega⟩,by (try simp);omega⟩
     ·rw[HE.out,HAT.out]
      rw[if_pos (by simp)]
      simp
     ·simp
      omega
    case measure=>simp [intOf];omega
   by_cases hc0:c=0
   ·subst hc0
    have hl0:=HL.out.2 rfl
    subst hl0
    have hL0:LL=0:=by rw[<-HLN.out.1];rfl
    subst hL0
    go_wp2_with fail
    refine (aZ w.heap.size w.heap.size _ ⟨#[98,97,116,99,104,32]⟩ _ BD1.out (by simp [Lib.byteCells_length,ByteArray.size]) HB1.out.size).mono ?_
    rintro e w2 ⟨rfl,hbd,hb,hok⟩
    have OW2:=Fx (OW1.out.others BD1.out hok)
    have BD2:Hid (io w.heap.size w.heap.size [98,97,116,99,104,32] w2):=Fx (by
     rw[dK] at hbd
     exact .inr (by simpa [HWT.out] using hbd))
    have HB2:=Fx (HB1.out.trans hb)
    clear hbd hb hok OW1 BD1 HB1
    go_wp2_with fail
    refine (aZ w.heap.size w.heap.size _ wd _ BD2.out (by rw[Lib.byteCells_length,wz];simp;omega) HB2.out.size).mono ?_
    rintro e w3 ⟨rfl,hbd,hb,hok⟩
    have OW3:=Fx (OW2.out.others BD2.out hok)
    have BD3:Hid (io w.heap.size w.heap.size ([98,97,116,99,104,32]++wp) w3):=Fx (by
     rw[dK] at hbd
     exact .inr (by simpa [HWT.out] using hbd))
    have HB3:=Fx (HB2.out.trans hb)
    clear hbd hb hok OW2 BD2 HB2
    go_wp2_with fail
    go_roundw
    case rel =>
     refine⟨k+1,1,[98,97,116,99,104,32]++wp,o,oa,oc,by omega,by go_num,by first | rfl | go_num,by first | rfl | simp,OW3,BD3,HB3,Fx ?_,by omega,Fx ⟨?_,fun h=>by omega⟩,by (try simp);omega⟩
     ·rw[HE.out,HAT.out]
      rw[if_neg (by simp)]
      simp
     ·simp
      omega
    case measure=>simp [intOf];omega
   have he1:((c:Int) == 256)=false:=beq_eq_false_iff_ne.2 (by omega)
   have he2:decide ((0:Int)<(c:Int))=true:=by simp;omega
   have he3:((c:Int) == 0)=false:=beq_eq_false_iff_ne.2 (by omega)
   by_cases hbig:16384<LL+2+WL
   ·have hd3:decide ((16384:Int)<(LL:Int)+2+(WL:Int))=true:=by simp;omega
    go_wp2_with fail
    refine (Tryz.Builder_Len_f w.heap.size w.heap.size _ _ BD1.out).mono ?_
    rintro e w99 ⟨rfl,rfl⟩
    rw[hbl]
    go_wp2_with fail
    refine (Tryz.Builder_String_any_k w.heap.size w.heap.size line _ BD1.out HB1.out.size).mono ?_
    rintro e w2 ⟨rfl,hbd,hb,hok⟩
    have OW2:=Fx (OW1.out.others BD1.out hok)
    have BD2:Hid (io w.heap.size w.heap.size line w2):=Fx hbd
    have HB2:=Fx (HB1.out.trans hb)
    clear hbd hb hok OW1 BD1 HB1
    go_wp2_with (at_builtin;refine wpList_append_lies _ rfl (.tmp 36) (.tmp 38) 28 rfl w.heap.size 9 i0 (.string ⟨#[]⟩) 1 16 underlying28 hi0 hz0 hz1 hz2 rfl (by decide) (.slice oa o.length oc) o.length _ rfl (OW2.out.alloc _) ⟨_,0,none⟩ 1 1 [.string ⟨line.toArray⟩] rfl rfl (World.news_of_block (af.new _ _ _)) (by simp [Value.oneCell']) (by decide) ?c3 ?c5 ?c4 _ rfl ?_)
    case c3=>unfold maxLen;omega
    case c5=>omega
    case c4=>have:=HB2.out.size;simp;omega
    intro g cap1 w3 hown2 hgrow2 hat2 hlt2
    have hbz:=HB2.out.size
    have HB3:=Fx ((ae HB2.out _).grown hgrow2 (by simp;omega) (fun q hq=>(World.ownsRow.lt OW2.out q hq).1))
    have BD3:Hid (io w.heap.size w.heap.size line w3):=Fx ((BD2.out.alloc _).grown (show aV w.heap.size _ (.slice oa o.length oc) o from OW2.out.alloc _) hgrow2)
    have OW3:Hid (aV w.heap.size w3 (.slice (some ⟨g,0,none⟩) (o++[line]).length cap1) (o++[line])):=Fx (by
     unfold aV
     simpa using hown2)
    clear hown2 hgrow2 hat2 hlt2 hbz OW2 BD2 HB2
    go_wp2_with fail
    refine (pn w.heap.size w.heap.size line _ BD3.out).mono ?_
    rintro e w4 ⟨rfl,hbd,hb,hok⟩
    have OW4:=Fx (OW3.out.others BD3.out hok)
    have BD4:=Fx hbd
    have HB4:=Fx (HB3.out.trans hb)
    clear hbd hb hok OW3 BD3 HB3
    go_wp2_with fail
    refine (aZ w.heap.size w.heap.size _ ⟨#[98,97,116,99,104,32]⟩ _ BD4.out (by simp [Lib.byteCells_length,ByteArray.size]) HB4.out.size).mono ?_
    rintro e w5 ⟨rfl,hbd,hb,hok⟩
    have OW5:=Fx (OW4.out.others BD4.out hok)
    have BD5:Hid (io w.heap.size w.heap.size [98,97,116,99,104,32] w5):=Fx (by
     rw[dK] at hbd
     exact .inr (by simpa [HWT.out] using hbd))
    have HB5:=Fx (HB4.out.trans hb)
    clear hbd hb hok OW4 BD4 HB4
    go_wp2_with fail
    refine (aZ w.heap.size w.heap.size _ wd _ BD5.out (by rw[Lib.byteCells_length,wz];simp;omega) HB5.out.size).mono ?_
    rintro e w6 ⟨rfl,hbd,hb,hok⟩
    have OW6:=Fx (OW5.out.others BD5.out hok)
    have BD6:Hid (io w.heap.size w.heap.size ([98,97,116,99,104,32]++wp) w6):=Fx (by
     rw[dK] at hbd
     exact .inr (by simpa [HWT.out] using hbd))
    have HB6:=Fx (HB5.out.trans hb)
    clear hbd hb hok OW5 BD5 HB5
    go_wp2_with fail
    go_roundw
    case rel =>
     refine⟨k+1,1,[98,97,116,99,104,32]++wp,o++[line],some ⟨g,0,none⟩,cap1,by omega,by go_num,by first | rfl | go_num,by first | rfl | simp,OW6,BD6,HB6,Fx ?_,by omega,Fx ⟨?_,fun h=>by omega⟩,by (try simp);omega⟩
     ·rw[HE.out,HAT.out]
      rw[if_pos (Or.inr ⟨by omega,by omega⟩)]
      simp
     ·simp
      omega
    case measure=>simp [intOf];omega
   ·have hd3:decide ((16384:Int)<(LL:Int)+2+(WL:Int))=false:=by simp;omega
    go_wp2_with fail
    refine (Tryz.Builder_Len_f w.heap.size w.heap.size _ _ BD1.out).mono ?_
    rintro e w99 ⟨rfl,rfl⟩
    rw[hbl]
    go_wp2_with fail
    refine (aZ w.heap.size w.heap.size _ ⟨#[44,32]⟩ _ BD1.out (by rw[hbl];show LL+2<=_;omega) HB1.out.size).mono ?_
    rintro e w2 ⟨rfl,hbd,hb,hok⟩
    have OW2:=Fx (OW1.out.others BD1.out hok)
    have BD2:Hid (io w.heap.size w.heap.size (line++[44,32]) w2):=Fx (by
     rw[dK] at hbd
     exact .inr (by simpa [HWT.out] using hbd))
    have HB2:=Fx (HB1.out.trans hb)
    clear hbd hb hok OW1 BD1 HB1
    go_wp2_with fail
    refine (aZ w.heap.size w.heap.size _ wd _ BD2.out (by rw[Lib.byteCells_length,wz];simp;omega) HB2.out.size).mono ?_
    rintro e w3 ⟨rfl,hbd,hb,hok⟩
    have OW3:=Fx (OW2.out.others BD2.out hok)
    have BD3:Hid (io w.heap.size w.heap.size (line++[44,32]++wp) w3):=Fx (by
     rw[dK] at hbd
     exact .inr (by simpa [HWT.out] using hbd))
    have HB3:=Fx (HB2.out.trans hb)
    clear hbd hb hok OW2 BD2 HB2
    go_wp2_with fail
    go_roundw
    case rel =>
     refine⟨k+1,c+1,line++[44,32]++wp,o,oa,oc,by omega,by go_num,by first | rfl | go_num,by first | rfl | simp,OW3,BD3,HB3,Fx ?_,by omega,Fx ⟨?_,fun h=>by omega⟩,by (try simp);omega⟩
     ·rw[HE.out,HAT.out]
      rw[if_neg (by simp only[not_or,not_and];exact⟨hc256,fun _=>by omega⟩),if_neg hc0]
     ·simp
      omega
    case measure=>simp [intOf];omega
  ·obtain rfl:k=n:=by omega
   have hE:=HE.out
   rw[List.drop_of_length_le (by rw[HN.out];exact FA)] at hE
   by_cases hc0:c=0
   ·subst hc0
    have HEE:=Fx hE
    clear hE
    go_wp2_with fail
    go_ret
    refine⟨_,rfl,?_,HB.out⟩
    rw[HEE.out,show jr x line 0 []=[] from rfl,List.append_nil]
    exact OW.out
   ·have he2:decide ((0:Int)<(c:Int))=true:=by simp;omega
    rw[show jr x line c []=[line] from if_pos (by omega)] at hE
    have HEE:=Fx hE
    have OW0:=OW
    have BD0:=BD
    have HB0:=HB
    clear hE OW BD HB
    go_wp2_with fail
    refine (Tryz.Builder_String_any_k w.heap.size w.heap.size line _ BD0.out HB0.out.size).mono ?_
    rintro e w1 ⟨rfl,hbd,hb,hok⟩
    have OW1:=Fx (OW0.out.others BD0.out hok)
    have BD1:Hid (io w.heap.size w.heap.size line w1):=Fx hbd
    have HB1:=Fx (HB0.out.trans hb)
    clear hbd hb hok OW0 BD0 HB0
    go_wp2_with (at_builtin;refine wpList_append_lies _ rfl (.tmp 52) (.tmp 54) 28 rfl w.heap.size 9 i0 (.string ⟨#[]⟩) 1 16 underlying28 hi0 hz0 hz1 hz2 rfl (by decide) (.slice oa o.length oc) o.length _ rfl (OW1.out.alloc _) ⟨_,0,none⟩ 1 1 [.string ⟨line.toArray⟩] rfl rfl (World.news_of_block (af.new _ _ _)) (by simp [Value.oneCell']) (by decide) ?c3 ?c5 ?c4 _ rfl ?_)
    case c3=>unfold maxLen;omega
    case c5=>omega
    case c4=>have:=HB1.out.size;simp;omega
    intro g cap1 w2 hown2 hgrow2 hat2 hlt2
    have hbz:=HB1.out.size
    have HB2:=Fx ((ae HB1.out _).grown hgrow2 (by simp;omega) (fun q hq=>(World.ownsRow.lt OW1.out q hq).1))
    have BD2:Hid (io w.heap.size w.heap.size line w2):=Fx ((BD1.out.alloc _).grown (show aV w.heap.size _ (.slice oa o.length oc) o from OW1.out.alloc _) hgrow2)
    have OW2:Hid (aV w.heap.size w2 (.slice (some ⟨g,0,none⟩) (o++[line]).length cap1) (o++[line])):=Fx (by
     unfold aV
     simpa using hown2)
    clear hown2 hgrow2 hat2 hlt2 hbz OW1 BD1 HB1
    go_wp2_with fail
    go_ret
    refine⟨_,rfl,?_,HB2.out⟩
    rw[HEE.out]
    have h9:=OW2.out
    simpa using h9
