/- The frame of a law's proof over the six listed variables of the command rows. -/
import Derived.Test.YtgopfpjinohncaaGreatDoorDlpZF
set_option maxHeartbeats 4000000
set_option maxRecDepth 100000
set_option linter.unusedVariables false
namespace Go.Proofs.YtgopfpjinohncaaGreatDoor
open Go.Proofs.Tryz
open Go.ChangeShapes Go.WideShapes Go.ChangeAt Go.RowKit Go.Joins
def td:List (String × DataW Unit):=Ay++[("osier/command.words",Rows.laid_osier_command_words)]
theorem gW {P:Program} {w:World}:∀ {a b:List (String × DataW Unit)} {ps:List MemPlace},DataW.LaidVars P w (a++b) ps->∃ p q,DataW.LaidVars P w a p/\DataW.LaidVars P w b q/\ps=p++q
 | [],b,ps,h=>⟨[],ps,rfl,h,rfl⟩
 | (n,d)::a,b,ps,h=>by
   obtain⟨g,t,cs,fuel,p,q,h1,h2,h3,h4,h5,rfl⟩:=h
   obtain⟨p2,q2,h6,h7,rfl⟩:=gW (a:=a) h5
   exact⟨MemPlace.row ⟨g,0,none⟩ cs.size++p++p2,q2,⟨g,t,cs,fuel,p,p2,h1,h2,h3,h4,h6,rfl⟩,h7,by simp [List.append_assoc]⟩
theorem nb {P:Program} {w:World} {a b:List (String × DataW Unit)} (h:laidMet P (a++b) w):laidMet P a w/\∃ q,DataW.LaidVars P w b q:=by
 obtain⟨ps,h1,h2,h3⟩:=h
 obtain⟨p,q,h4,h5,rfl⟩:=gW h1
 exact⟨⟨p,h4,(List.nodup_append.1 h2).1,fun b off hb=>h3 b off (List.mem_append_left _ hb)⟩,q,h5⟩
theorem oX {H:Type} {enc:TypeId × Value->H} {P:Program} {w:World} {base:Nat} {sp:Nat->Bool} {held:Bool} {fuel:Nat} {t e:TypeId} {n:Nat} {cs:List Value} {zs:List (List UInt8)} {p:List MemPlace}
 (ht:P.underlying t=some (.array n e)) (he:P.underlying e=some .string) (hce:P.cellsOf e=1) (hct:P.cellsOf t=n)
 (h:DataW.trod enc P w base sp held fuel t cs=some (.agg (zs.map fun z=>.lit (.string z)),p)):cs=zs.map fun z=>Value.string ⟨z.toArray⟩:=by
 cases fuel with
 | zero=>simp [DataW.trod] at h
 | succ fuel =>
   simp only[DataW.trod,ht,hce,hct,Nat.mul_one] at h
   split at h
   ·rename_i hl
    obtain⟨xs,hm,hx⟩:=Option.map_eq_some_iff.1 h
    have hxs:xs.map (·.1)=zs.map fun z=>(DataW.lit (.string z):DataW H):=by
     have:=congrArg Prod.fst hx
     simpa using this
    have hxl:xs.length=n:=by simpa using Lib.mapM_length hm
    have hzl:zs.length=n:=by
     have:=congrArg List.length hxs
     simp at this
     omega
    apply List.ext_getElem?
    intro i
    by_cases hi:i<n
    ·obtain⟨b,hb,hf⟩:=Lib.mapM_at hm i i (by simp [hi])
     obtain⟨z,hc,rfl,_⟩:=DataW.trod_string he hf
     have h1:cs[i]? = some (.string z):=by
      have:=congrArg (·[0]?) hc
      simpa [List.getElem?_take,List.getElem?_drop] using this
     have h2:(xs.map (·.1))[i]? = some (DataW.lit (.string z.data.toList):DataW H):=by simp [hb]
     rw[hxs] at h2
     simp only[List.getElem?_map,Option.map_eq_some_iff,DataW.lit.injEq,Lit.string.injEq] at h2
     obtain⟨z',hz',hz2⟩:=h2
     rw[h1,List.getElem?_map,hz',hz2]
     simp
    ·rw[List.getElem?_eq_none (by omega),List.getElem?_eq_none (by simp;omega)]
   ·cases h
theorem EG:prog.globalNamed "osier/command.words" = some 0:=by kernel_rfl
theorem E9:(prog.globals[0]?).map (·.type)=some 138:=by kernel_rfl
theorem Fc:prog.cellsOf 138=19:=by kernel_rfl
theorem EU:prog.cellsOf 9=1:=by kernel_rfl
theorem yG:(ej.map fun z=>Value.string ⟨z.toArray⟩).toArray=fX:=rfl
theorem oY {W:World} (h:laidMetH prog td W):d8 W:=by
 rw[MakeChecks.laidMetH_plain _ _ _ (by kernel_rfl)] at h
 obtain⟨h1,q,h2⟩:=nb (a:=Ay) h
 refine⟨qM (by rw[MakeChecks.laidMetH_plain _ _ _ (by kernel_rfl)];exact h1),?_⟩
 obtain⟨g,t,cs,fuel,p,q',hg,ht,hv,hd,_,_⟩:=h2
 obtain rfl:=Option.some.inj (EG.symm.trans hg)
 obtain rfl:=Option.some.inj (E9.symm.trans ht)
 have et:(Rows.laid_osier_command_words:DataW Unit)=.agg (ej.map fun z=>.lit (.string z)):=by kernel_rfl
 rw[et] at hd
 have hcs:=oX underlying138 underlying9 EU Fc hd
 have hca:cs=fX:=by
  rw[<-yG,<-hcs]
 subst hca
 unfold World.var? at hv
 simp only[EG,Option.bind_some] at hv
 split at hv
 ·rename_i cs' t' f' heq
  cases hv
  exact⟨t',f',heq⟩
 ·cases hv
theorem xB (os:Os) (args:Array Value):laidMetH prog td ((World.doorLaid prog 100 os).forCall (fun _ _=>0) ⟨#[],args,[]⟩).memory :=
 laidMetH_of_parts3 (fuel:=8) (laidMet_of_run' 8 (by kernel_rfl) (by kernel_rfl)) (by kernel_rfl) (by kernel_rfl)
end Go.Proofs.YtgopfpjinohncaaGreatDoor
namespace Go.Proofs.YtgopfpjinohncaaGreatDoor
open Go.Proofs.Tryz
open Go.RowKit
theorem nM {R:ByteArray} {l:List UInt8} (h:R.data.toList=l):R=⟨l.toArray⟩:=ByteArray.ext (Array.toList_inj.1 (by simpa using h))
theorem EL:fX[1]? = some (.string ⟨#[114,101,108]⟩):=rfl
theorem Ez:fX[2]? = some (.string ⟨#[118,105,101,119]⟩):=rfl
theorem tU {s3 s7:ByteArray} {i8 i9:Int} {a4 a5 a6 a10:Option Addr} {n4 n5 n6 n10 c4 c5 c6 c10:Nat} (w:World) (r:aU) (cv:Value) (h:aO w cv r.cols) (hk:cr r.name r.cols=0) (hg:d8 w) :
 Calls prog 23 #[.agg #[.int .i64 1,.string ⟨r.name.toArray⟩,cv,.string s3,.slice a4 n4 c4,.slice a5 n5 c5,.slice a6 n6 c6,.string s7,.int .i64 i8,.int .i64 i9,.slice a10 n10 c10]] w fun e w'=>e=.returned (.string ⟨(cE r).toArray⟩)/\Below w.heap.size w w':=by
 have HR:=Fx (fun W (hW:Below w.heap.size w W)=>vE W ⟨r.name.toArray⟩ cv r.cols (h.keep hW) hk)
 have hn0:(⟨r.name.toArray⟩:ByteArray).data.toList=r.name:=rfl
 rw[hn0] at HR
 have hl:=rL hk
 rw[iN hk]
 obtain⟨o1,l1,rfl,_,_⟩:=h.form
 generalize ct r.name r.cols=S at *
 obtain⟨s0,S,rfl⟩:∃ s0 S',S=s0::S':=by
  cases S with
  | nil=>simp at hl
  | cons a l=>exact⟨a,l,rfl⟩
 have hne:((⟨(s0::S).toArray⟩:ByteArray).toList == [])=false:=by rw[ByteArray.toList_eq];simp
 have hne2:((⟨(s0::S).toArray⟩:ByteArray).toList.isEmpty)=false:=by rw[ByteArray.toList_eq];simp
 generalize hS:(⟨(s0::S).toArray⟩:ByteArray)=sb at *
 have hss:sb.size<=16384:=by rw[<-hS];simpa [ByteArray.size] using hl.2
 have v1:¬ 9223372036854775807<4+sb.size:=by omega
 have v2:¬ 9223372036854775807<3+1+sb.size:=by omega
 have HS:=Fx hS
 generalize r.cols.length=n1 at *
 generalize (⟨r.name.toArray⟩:ByteArray)=x1 at *
 have hb0:Below w.heap.size w (w.alloc (.cells #[.int .i64 1,.string x1,.slice o1 n1 l1,.string s3,.slice a4 n4 c4,.slice a5 n5 c5,.slice a6 n6 c6,.string s7,.int .i64 i8,.int .i64 i9,.slice a10 n10 c10] 61)):=ae Fy _
 have hbx:=af.new w 61 #[.int .i64 1,.string x1,.slice o1 n1 l1,.string s3,.slice a4 n4 c4,.slice a5 n5 c5,.slice a6 n6 c6,.string s7,.int .i64 i8,.int .i64 i9,.slice a10 n10 c10]
 obtain⟨W0,hW0⟩:∃ W0,w.alloc (.cells #[.int .i64 1,.string x1,.slice o1 n1 l1,.string s3,.slice a4 n4 c4,.slice a5 n5 c5,.slice a6 n6 c6,.string s7,.int .i64 i8,.int .i64 i9,.slice a10 n10 c10] 61)=W0:=⟨_,rfl⟩
 rw[hW0] at hb0 hbx
 have hg0:=hg.below hb0
 have kw:=hg0.v.cell 1
 rw[EL] at kw
 have kl:=hg0.v.lt
 have x0:=hbx.cell 0
 have y1:=hbx.cell 1
 have y2:=hbx.cell 2
 have xl:=hbx.lt
 simp only[FF] at x0 y1 y2
 have HB0:=Fx hb0
 have HW0:=Fx hW0
 clear h hk hn0 hl hS hb0 hbx hg0 hW0 hg
 go_enter func23,ntmps23
 go_upto_region 1 with fail
 rw[HW0.out]
 go_wp2_with (go_at_call 68;refine (HR.out _ HB0.out).mono ?_;rintro e w' ⟨rfl,hb'⟩)
 go_ret
 refine⟨congrArg (fun x=>Ending.returned (.string x)) (nM ?_),HB0.out.trans (hb'.mono HB0.out.size)⟩
 rw[<-HS.out]
 simp
theorem pR {s1 s7:ByteArray} {i8 i9:Int} {a2 a6 a10:Option Addr} {n2 n6 n10 c2 c6 c10:Nat} (w:World) (q:cf) (hv av:Value) (h:aI w hv q.head) (h2:aK w av q.atoms) (hb:iG q) (hk:fQ q=0) (hg:d8 w) :
 Calls prog 23 #[.agg #[.int .i64 2,.string s1,.slice a2 n2 c2,.string ⟨q.name.toArray⟩,hv,av,.slice a6 n6 c6,.string s7,.int .i64 i8,.int .i64 i9,.slice a10 n10 c10]] w fun e w'=>e=.returned (.string ⟨(bL q).toArray⟩)/\Below w.heap.size w w':=by
 have hrng:fq q:=fun a ha t ht=>((hb.each a ha).2 t ht).1
 have HR:=Fx (fun W (hW:Below w.heap.size w W)=>uH W ⟨q.name.toArray⟩ hv av q.head q.atoms (aj.keep h hW) (h2.keep hW) (cD hk) hrng (hg.g.below hW))
 have hn0:qT ⟨(⟨q.name.toArray⟩:ByteArray).data.toList,q.head,q.atoms⟩=qT q:=rfl
 rw[hn0] at HR
 have hl:=qJ (cD hk) hrng
 have hqT:gv q=qT q:=by unfold gv;rw[if_pos hk]
 rw[gN hk,hqT]
 obtain⟨o1,l1,rfl,_,_⟩:=h.form
 obtain⟨o2,l2,rfl,_,_⟩:=h2.form
 obtain⟨hl1,hl2,_⟩:=hl
 generalize qT q=S at *
 obtain⟨s0,S,rfl⟩:∃ s0 S',S=s0::S':=by
  cases S with
  | nil=>simp at hl1
  | cons a l=>exact⟨a,l,rfl⟩
 have hne:((⟨(s0::S).toArray⟩:ByteArray).toList == [])=false:=by rw[ByteArray.toList_eq];simp
 have hne2:((⟨(s0::S).toArray⟩:ByteArray).toList.isEmpty)=false:=by rw[ByteArray.toList_eq];simp
 generalize hS:(⟨(s0::S).toArray⟩:ByteArray)=sb at *
 have hss:sb.size<=16384:=by rw[<-hS];simpa [ByteArray.size] using hl2
 have v1:¬ 9223372036854775807<5+sb.size:=by omega
 have v2:¬ 9223372036854775807<4+1+sb.size:=by omega
 have HS:=Fx hS
 try simp only[List.length_map] at HR ⊢
 generalize q.head.length=m1 at *
 generalize q.atoms.length=m2 at *
 generalize (⟨q.name.toArray⟩:ByteArray)=x1 at *
 have hb0:Below w.heap.size w (w.alloc (.cells #[.int .i64 2,.string s1,.slice a2 n2 c2,.string x1,.slice o1 m1 l1,.slice o2 m2 l2,.slice a6 n6 c6,.string s7,.int .i64 i8,.int .i64 i9,.slice a10 n10 c10] 61)):=ae Fy _
 have hbx:=af.new w 61 #[.int .i64 2,.string s1,.slice a2 n2 c2,.string x1,.slice o1 m1 l1,.slice o2 m2 l2,.slice a6 n6 c6,.string s7,.int .i64 i8,.int .i64 i9,.slice a10 n10 c10]
 obtain⟨W0,hW0⟩:∃ W0,w.alloc (.cells #[.int .i64 2,.string s1,.slice a2 n2 c2,.string x1,.slice o1 m1 l1,.slice o2 m2 l2,.slice a6 n6 c6,.string s7,.int .i64 i8,.int .i64 i9,.slice a10 n10 c10] 61)=W0:=⟨_,rfl⟩
 rw[hW0] at hb0 hbx
 have hg0:=hg.below hb0
 have kw:=hg0.v.cell 2
 rw[Ez] at kw
 have kl:=hg0.v.lt
 have x0:=hbx.cell 0
 have y3:=hbx.cell 3
 have y4:=hbx.cell 4
 have y5:=hbx.cell 5
 have xl:=hbx.lt
 simp only[FF] at x0 y3 y4 y5
 have HB0:=Fx hb0
 have HW0:=Fx hW0
 clear h h2 hb hk hn0 hrng hqT hl1 hl2 hS hb0 hbx hg0 hW0 hg
 go_enter func23,ntmps23
 go_upto_region 1 with fail
 rw[HW0.out]
 go_wp2_with (go_at_call 69;refine (HR.out _ HB0.out).mono ?_;rintro e w' ⟨rfl,hb'⟩)
 go_ret
 refine⟨congrArg (fun x=>Ending.returned (.string x)) (nM ?_),HB0.out.trans (hb'.mono HB0.out.size)⟩
 rw[<-HS.out]
 simp
theorem wn (w:World) (r:aU) (cv:Value) (h:aO w cv r.cols) (hk:cr r.name r.cols=0) (hg:d8 w) :
 Calls prog 23 #[.agg #[.int .i64 1,.string ⟨r.name.toArray⟩,cv,.string ⟨#[]⟩,.slice none 0 0,.slice none 0 0,.slice none 0 0,.string ⟨#[]⟩,.int .i64 0,.int .i64 0,.slice none 0 0]] w fun e w'=>e=.returned (.string ⟨(cE r).toArray⟩)/\Below w.heap.size w w' :=
 tU w r cv h hk hg
theorem tz (w:World) (q:cf) (hv av:Value) (h:aI w hv q.head) (h2:aK w av q.atoms) (hb:iG q) (hk:fQ q=0) (hg:d8 w) :
 Calls prog 23 #[.agg #[.int .i64 2,.string ⟨#[]⟩,.slice none 0 0,.string ⟨q.name.toArray⟩,hv,av,.slice none 0 0,.string ⟨#[]⟩,.int .i64 0,.int .i64 0,.slice none 0 0]] w fun e w'=>e=.returned (.string ⟨(bL q).toArray⟩)/\Below w.heap.size w w' :=
 pR w q hv av h h2 hb hk hg
end Go.Proofs.YtgopfpjinohncaaGreatDoor
namespace Go.Proofs.YtgopfpjinohncaaGreatDoor.dumpFits
open Go.Proofs.Tryz
open Go.ChangeShapes Go.WideShapes Go.ChangeAt Go.RowKit
open Go.ChangeMaps (open_string shut_string)
theorem an {a b:Bool} (h:a=true) (k:b=true):(a && b)=true:=by rw[h,k];rfl
theorem ja:(Rows.dumpFitsUptoRow.wf (OpenSpec.ofChange (Rows.OpenSpec.upto Rows.dumpFitsSpec).bare) && laidOutB Tryz.pinned.checked.prog && mapsRowed Tryz.pinned.checked.prog && (Tryz.f6).params.all (Tryz.pinned.checked.prog.readableRec ·) && namedTie Tryz.pinned.checked.prog Rows.dumpFitsUptoRow.named ((Rows.OpenSpec.upto Rows.dumpFitsSpec).bare).vars && (Rows.dumpFitsUptoRow.stops == []) && (Tryz.pinned.checked.prog.stops == []) && (Rows.dumpFitsUptoRow.knobs == []) && (Tryz.pinned.checked.prog.stopKnobs == []))=true:=by kernel_rfl
theorem jb:(Rows.dumpFitsUptoRow.inPlace == Tryz.pinned.checked.prog.inPlace 6)=true:=by kernel_rfl
theorem jc:(Rows.dumpFitsUptoRow.unfollowed == Tryz.pinned.checked.prog.unfollowed 6)=true:=by kernel_rfl
theorem jd:(Rows.dumpFitsUptoRow.recurses == Tryz.pinned.checked.prog.recurses 6)=true:=by kernel_rfl
theorem je:(Rows.dumpFitsUptoRow.named == Tryz.pinned.checked.prog.varsNamed 6)=true:=by kernel_rfl
theorem DU:joinedFacts Tryz.pinned.checked.prog 6 Tryz.f6 (Rows.OpenSpec.upto Rows.dumpFitsSpec).bare Rows.dumpFitsUptoRow=true:=by
 unfold joinedFacts
 exact an (an (an (an (an (an (an (an (an (an (an (an (an (an (an (an (an (an (an (an (an (an (an ja jb) jc) jd) je) (by kernel_rfl)) (by kernel_rfl)) (by kernel_rfl)) (by kernel_rfl)) (by kernel_rfl)) (by kernel_rfl)) (by kernel_rfl)) (by kernel_rfl)) (by kernel_rfl)) (by kernel_rfl)) (by kernel_rfl)) (by kernel_rfl)) (by kernel_rfl)) (by kernel_rfl)) (by kernel_rfl)) (by kernel_rfl)) (by kernel_rfl)) (by kernel_rfl)) (by kernel_rfl)
theorem plain (f:FuncId) (fn:Func) (hf:Tryz.pinned.checked.prog.funcNamed "osier/osierlaw26.DumpFits" = some f) (hfn:Tryz.pinned.checked.prog.funcs[f]? = some fn) :
 true=Tryz.pinned.checked.prog.looks []/\∀ (j:Nat) t,fn.params[j]? = some t->Tryz.pinned.checked.prog.wantsStandIn t=false:=by
 obtain rfl:f=6:=Option.some.inj ((show prog.funcNamed "osier/osierlaw26.DumpFits" = some 6 by kernel_rfl).symm.trans hf) |>.symm
 obtain rfl:fn=Tryz.f6:=(Option.some.inj (func6.symm.trans hfn)).symm
 refine⟨by kernel_rfl,fun j t ht=>?_⟩
 rw[Tryz.params6] at ht
 have hm:t∈[22,23,24]:=by simpa using Array.mem_of_getElem? ht
 have hall:([22,23,24].all fun u => !prog.wantsStandIn u)=true:=by kernel_rfl
 exact (show prog.wantsStandIn t=false by simpa using List.all_eq_true.1 hall t hm)
