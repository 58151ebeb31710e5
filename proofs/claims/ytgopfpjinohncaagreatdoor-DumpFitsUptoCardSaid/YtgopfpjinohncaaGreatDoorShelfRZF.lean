/- slices.SortFunc at Row: -/
import Derived.Test.YtgopfpjinohncaaGreatDoorArzZF
import Derived.Shelf.SlSortCmp.Whole1
set_option maxHeartbeats 8000000
set_option maxRecDepth 100000
set_option linter.unusedVariables false
namespace Go.Proofs
open Go.Shelf
def Tryz.sortRow_ren:Go.Shelf.Ren:=⟨fun | 6=>92 | 15=>174 | 14=>173 | 28=>226 | 29=>227 | 20=>218 | 21=>219 | 22=>220 | 23=>221 | 24=>222 | 25=>223 | 26=>224 | 27=>225 | 46=>257 | 47=>258 | 48=>259 | 49=>260 | 50=>261 | 57=>289 | n=>n,fun | 22=>45 | 24=>59 | 25=>164 | 3=>3 | 39=>262 | 0=>0 | 53=>309 | 55=>293 | 4=>4 | 46=>302 | 45=>301 | 50=>306 | 5=>5 | 9=>9 | 66=>342 | 70=>116 | 76=>389 | 77=>51 | n=>n,fun | n=>n⟩
theorem Tryz.sortRow:Go.Proofs.SlLaysF.n6 prog Tryz.sortRow_ren := {
 mixed:=by kernel_rfl
 f6:=⟨Tryz.f92.name,by decide,func92.trans (congrArg some (by kernel_rfl))⟩
 f14:=⟨Tryz.f173.name,by decide,func173.trans (congrArg some (by kernel_rfl))⟩
 f15:=func174.trans (congrArg some (by kernel_rfl))
 f20:=⟨Tryz.f218.name,by decide,func218.trans (congrArg some (by kernel_rfl))⟩
 f21:=⟨Tryz.f219.name,by decide,func219.trans (congrArg some (by kernel_rfl))⟩
 f22:=⟨Tryz.f220.name,by decide,func220.trans (congrArg some (by kernel_rfl))⟩
 f23:=⟨Tryz.f221.name,by decide,func221.trans (congrArg some (by kernel_rfl))⟩
 f24:=⟨Tryz.f222.name,by decide,func222.trans (congrArg some (by kernel_rfl))⟩
 f25:=⟨Tryz.f223.name,by decide,func223.trans (congrArg some (by kernel_rfl))⟩
 f26:=⟨Tryz.f224.name,by decide,func224.trans (congrArg some (by kernel_rfl))⟩
 f27:=⟨Tryz.f225.name,by decide,func225.trans (congrArg some (by kernel_rfl))⟩
 f28:=func226.trans (congrArg some (by kernel_rfl))
 f29:=func227.trans (congrArg some (by kernel_rfl))
 f46:=⟨Tryz.f257.name,by decide,func257.trans (congrArg some (by kernel_rfl))⟩
 f47:=func258.trans (congrArg some (by kernel_rfl))
 f48:=func259.trans (congrArg some (by kernel_rfl))
 f49:=⟨Tryz.f260.name,by decide,func260.trans (congrArg some (by kernel_rfl))⟩
 f50:=⟨Tryz.f261.name,by decide,func261.trans (congrArg some (by kernel_rfl))⟩
 f57:=⟨Tryz.f289.name,by decide,func289.trans (congrArg some (by kernel_rfl))⟩
 t0:=underlying0
 a0:=isAgg0
 z0:=sizeOf0
 v0:=zeroValue0
 t3:=underlying3
 a3:=isAgg3
 z3:=sizeOf3
 v3:=zeroValue3
 t4:=underlying4
 a4:=isAgg4
 z4:=sizeOf4
 v4:=zeroValue4
 t5:=underlying5
 a5:=isAgg5
 z5:=sizeOf5
 v5:=zeroValue5
 t9:=underlying9
 a9:=isAgg9
 z9:=sizeOf9
 v9:=zeroValue9
 t22:=underlying45
 a22:=isAgg45
 z22:=sizeOf45
 v22:=zeroValue45
 a24:=isAgg59
 z24:=sizeOf59
 t25:=underlying164
 a25:=isAgg164
 z25:=sizeOf164
 v25:=zeroValue164
 t39:=underlying262
 a39:=isAgg262
 z39:=sizeOf262
 v39:=zeroValue262
 t45:=underlying301
 a45:=isAgg301
 z45:=sizeOf301
 v45:=zeroValue301
 t46:=underlying302
 a46:=isAgg302
 z46:=sizeOf302
 v46:=zeroValue302
 t50:=underlying306
 a50:=isAgg306
 z50:=sizeOf306
 v50:=zeroValue306
 t53:=underlying309
 a53:=isAgg309
 z53:=sizeOf309
 v53:=zeroValue309
 t55:=underlying293
 a55:=isAgg293
 z55:=sizeOf293
 v55:=zeroValue293
 t66:=underlying342
 a66:=isAgg342
 z66:=sizeOf342
 v66:=zeroValue342
 t70:=underlying116
 a70:=isAgg116
 z70:=sizeOf116
 v70:=zeroValue116
 t76:=underlying389
 a76:=isAgg389
 z76:=sizeOf389
 v76:=zeroValue389
 t77:=underlying51
 a77:=isAgg51
 z77:=sizeOf51
 v77:=zeroValue51 }
end Go.Proofs
namespace Go.Proofs.YtgopfpjinohncaaGreatDoor
open Go.Proofs.Tryz
open Go.RowKit Go.Sort
structure RO (w0:World) where
 cell:Value
 r:List Vl
 at_:C0 w0 cell r
theorem wM {w0:World}:∀ {cells:List Value} {M:List (List Vl)},aH (C0 w0) cells M->∃ el:List (RO w0),el.map RO.cell=cells/\el.map RO.r=M
 | [],[],_=>⟨[],rfl,rfl⟩
 | x::cells,r::M,h=>by
   obtain⟨el,h1,h2⟩:=wM h.2
   exact⟨⟨x,r,h.1⟩::el,by simp [h1],by simp [h2]⟩
 | [],_::_,h=>h.elim
 | _::_,[],h=>h.elim
theorem wH {w0:World}:∀ (l:List (RO w0)),aH (C0 w0) (l.map RO.cell) (l.map RO.r)
 | []=>trivial
 | x::l=>⟨x.at_,wH l⟩
theorem RO.one {w0:World} (x:RO w0):x.cell.oneCell'=true:=by
 obtain⟨h,_⟩:=x.at_
 obtain⟨a,c,e,_,_⟩:=h.form
 rw[e]
 rfl
theorem Ef {w0:World}:SWO (ltOf fun x y:RO w0=>aw x.r y.r) where
 irrefl x:=by simp [ltOf,fP]
 trans x y z h1 h2:=by
  simp only[ltOf,decide_eq_true_eq] at *
  exact dS _ _ _ h1 h2
 ntrans x y z h1 h2:=by
  simp only[ltOf,decide_eq_false_iff_not] at *
  intro h3
  have a1:=eB x.r y.r
  by_cases h0:aw x.r y.r=0
  ·rw[<-iP _ _ h0] at h2
   exact h2 h3
  ·exact h2 (dS _ _ _ (by omega) h3)
theorem xP (w0 w:World) (g n cap:Nat) (M:List (List Vl)) (h:Ey w0 w g n cap M) (hn:M.length=n) (hl:n<4611686018427387904) :
 Calls prog 92 #[.slice (some ⟨g,0,none⟩) n cap,.func (.func 93) #[] #[]] w fun e w'=>e=.returned (.tuple #[]) /\
  ∃ s:List (List Vl),s.Perm M/\E3 s/\Ey w0 w' g n cap s:=by
 obtain⟨cells,hro,hall,hbw⟩:=h
 obtain⟨el,he1,he2⟩:=wM hall
 have hel:el.length=n:=by rw[<-hn,<-he2,List.length_map]
 haveI:Inhabited (RO w0):=⟨⟨.slice none 0 0,[],aj.nil _ _,Fz⟩⟩
 have hro':w.ownsRow w0.heap.size 59 1 (.slice (some ⟨g,0,none⟩) n cap) n (el.toArray.toList.map RO.cell):=by
  rw[List.toList_toArray,he1]
  exact hro
 have hds:el.toArray.size=n:=by simpa using hel
 obtain⟨hH,hgl,hnc⟩:=uE hro' hds
 have hgb:w0.heap.size<=g:=by
  rcases hro.2 with ⟨q,_⟩ | ⟨g',_,_,hv,hb,_⟩
  ·simp at q
  ·simp only[Value.slice.injEq,Option.some.injEq,Addr.mk.injEq,and_true,true_and] at hv
   rw[hv.1]
   exact hb
 have hbm:∀ {W:World},aq (fun j=>j=g) w W->Below w0.heap.size w0 W:=fun hm=>hbw.trans (hm.below hbw.size (fun i hi=>by rw[hi];exact hgb))
 have hcmp:CmpLays1 prog 93 #[] RO.cell (fun x y:RO w0=>aw x.r y.r) g 0 n w:=by
  intro m os dk hs x y
  have hb:=hbm (lM (enc:=RO.cell) (m:=m) (os:=os) hro hs).2
  exact (gZ _ x.cell y.cell x.r y.r (x.at_.1.keep hb) (y.at_.1.keep hb)).mono fun e W' hh=>⟨hh.1,hh.2.form⟩
 have eg:∀ args w,(callFunc 93 args).run prog w=.ok (.enter 93 args) w:=enters_of func93 (by kernel_rfl) rfl
 have hcon:=Any.slices_SortFunc Tryz.sortRow RO.cell (fun x=>x.one) (fun x y:RO w0=>aw x.r y.r) Ef 93 #[] g 0 cap el.toArray w eg (by rw[hds];exact hcmp) hH hgl (by rw[hds];exact hl)
 rw[hds] at hcon
 refine Calls.mono hcon ?_
 rintro e w' ⟨rfl,d',m,os,hp,hs,rfl⟩
 have hd':d'.size=n:=by rw[hp.1,hds]
 have hpl:d'.toList.Perm el:=by
  have h1:=hp.2.2
  have e1:(d'.extract 0 n).toList=d'.toList:=by
   rw[Array.toList_extract]
   simp [<-hd']
   exact List.take_of_length_le (Nat.le_of_eq Array.length_toList)
  have e2:(el.toArray.extract 0 n).toList=el:=by
   rw[Array.toList_extract]
   simp [<-hel]
  rw[e1,e2] at h1
  exact h1
 have hso:=lM (enc:=RO.cell) (m:=m) (os:=os) hro hd'
 refine⟨rfl,d'.toList.map RO.r,?_,?_,d'.toList.map RO.cell,hso.1,wH _,hbm hso.2⟩
 ·rw[<-he2]
  exact hpl.map _
 ·unfold E3
  rw[List.pairwise_map,List.pairwise_iff_getElem]
  intro i j hi hj hij
  have h1:=hs i j (Fz) hij (by rw[Array.length_toList] at hj;omega)
  simp only[ltOf,decide_eq_false_iff_not] at h1
  rw[Array.length_toList] at hi hj
  rw[getElem!_pos d' i hi,getElem!_pos d' j hj] at h1
  simpa using h1
end Go.Proofs.YtgopfpjinohncaaGreatDoor
namespace Go.Proofs.YtgopfpjinohncaaGreatDoor
open Go.Proofs.Tryz
open Go.RowKit
theorem r8 (w:World) (v:Value) (l:List (List Vl)) (h:cq w v l) (hl:l.length<=1099511627776) :
 Calls prog 33 #[v] w fun e w'=>∃ v',e=.returned v'/\cq w' v' (dX l)/\Below w.heap.size w w':=by
 obtain⟨i0,hi0,hz0,hz1,hz2⟩:=info_parts Tryz.infoRow
 obtain⟨ad,cap,rfl,hnc,hcm⟩:=h.form
 unfold maxLen at hcm
 obtain⟨rows,hrow,hall⟩:=h
 have hll:=hall.length
 obtain⟨cells,rfl,hcs⟩:=gP (w:=w) (v:=.slice none 0 0) hall
 rw[List.length_map] at hll
 have hone:∀ x∈cells.map (fun x=>[x]),∀ u∈x,u.oneCell'=true:=by
  intro x hx u hu
  obtain⟨r,_,h1,_⟩:=bm hcs u (by
   obtain⟨y,hy,rfl⟩:=List.mem_map.1 hx
   simp at hu
   rw[hu]
   exact hy)
  obtain⟨a,c,e,_,_⟩:=h1.form
  rw[e]
  rfl
 have HR:=Fx hrow
 have HC:=Fx hcs
 have HO:=Fx hone
 have HX:=Fx (show (cells.map fun x=>[x]).length=l.length by rw[List.length_map,hll])
 have HL:=Fx (show ∀ x∈cells.map (fun x=>[x]),x.length=1 from fun x hx=>by
  obtain⟨y,_,rfl⟩:=List.mem_map.1 hx
  rfl)
 obtain⟨SA,hSA⟩:∃ SA,SA=dX l:=⟨_,rfl⟩
 rw[<-hSA]
 have HSA:=Fx hSA
 clear hrow hcs hone hall hSA
 generalize hN:l.length=n at *
 have HN:=Fx hN
 have HLL:=Fx hll
 clear hN hll
 go_enter func33,ntmps33
 go_wp2_with (at_make;refine wpList_make_full _ rfl _ _ 45 rfl w.heap.size 59 i0 (.slice none 0 0) 1 underlying45 hi0 hz0 hz1 _ _ _ _ n rfl rfl rfl rfl ?b2 ?b3 ?b4 ?_)
 case b2=>rw[hz2];omega
 case b3=>unfold maxLen;omega
 case b4=>omega
 intro w2 hown2 hgrow2
 have hbw2:Below w.heap.size w w2:=(Below.refl _ w).grown hgrow2 FA (fun q hq=>by cases hq)
 have HOW2:=Fx hown2
 have HBW2:=Fx hbw2
 have HR2:=Fx (HR.out.keep hbw2)
 clear hbw2 hown2 hgrow2
 go_wp2_with (refine ci rfl _ _ _ _ rfl 59 1 underlying45 (by kernel_rfl) w.heap.size n _ rfl rfl _ w.heap.size HOW2.out (cells.map fun x=>[x]) HR2.out HX.out HL.out HO.out FA ?_)
 intro w3 hown3 hmod3 hsz3
 have hb3:Below w.heap.size w w3:=aq.own HBW2.out hmod3 FA
 rw[le] at hown3
 have HS3:Hid (Ey w w3 w.heap.size n n l):=Fx ⟨cells,hown3,HC.out,hb3⟩
 clear hown3 hmod3 hsz3 hb3
 have HSO:=Fx (xP w w3 w.heap.size n n l HS3.out HN.out (by omega))
 clear HOW2 HBW2 HR2 HS3
 go_wp2_with fail
 refine HSO.out.mono ?_
 rintro e w4 ⟨rfl,s,hperm,hnd,hs4⟩
 have hcp:=rf w w4 w.heap.size n n s hs4 (by rw[hperm.length_eq,HN.out]) (by omega)
 rw[rY hnd hperm,<-HSA.out] at hcp
 have HCP:=Fx hcp
 clear hperm hnd hs4 hcp HSO
 go_wp2_with fail
 refine HCP.out.mono ?_
 rintro e w5 ⟨n',rfl,hn',⟨R5,ho5,ha5,hb5⟩,hlen⟩
 have HO5:=Fx ho5
 have HA5:=Fx ha5
 have HB5:=Fx hb5
 have HLN:=Fx hlen
 clear ho5 ha5 hb5 hlen HCP HX HL HO HC HR
 go_wp2_with fail
 go_loopw [17] (fun i wr=>∃ (k:Nat) (R:List Value),k<=n'/\i=.int .i64 k/\Hid (wr.ownsRow w.heap.size 59 1 (.slice (some ⟨w.heap.size,0,none⟩) n' n) n' R)/\Hid (aH (rE w.heap.size wr) (R.take k) (SA.take k))/\Hid (aH (C0 w) (R.drop k) (SA.drop k))/\Hid (Below w.heap.size w wr)) (fun i _=>n' - (intOf i).toNat)
 case atStart=>exact⟨0,R5,Fz,rfl,HO5,Fx trivial,HA5,HB5⟩
 case round =>
  obtain⟨k,R,hk,rfl,HO,HT,HD,HB⟩:=hrel
  obtain⟨wo,rfl⟩:∃ wo:World,wo=wr:=⟨_,rfl⟩
  have hRl:R.length=n':=by have:=HO.out.1;omega
  have HRL:=Fx hRl
  clear hRl
  by_cases hlt:k<n'
  ·obtain⟨x,hx⟩:∃ x,R[k]? = some x:=⟨R[k]'(by rw[HRL.out];exact hlt),FD (by rw[HRL.out];exact hlt)⟩
   obtain⟨r,hr⟩:∃ r,SA[k]? = some r:=⟨SA[k]'(by rw[HLN.out];exact hlt),FD (by rw[HLN.out];exact hlt)⟩
   have hD:=HD.out
   rw[show R.drop k=x::R.drop (k+1) by rw[<- (FE hx).2,List.getElem_cons_drop],show SA.drop k=r::SA.drop (k+1) by rw[<- (FE hr).2,List.getElem_cons_drop]] at hD
   have q0:=dU HO.out hx
   have hcl:=iU wo x (r.map Vl.cells) (hD.1.1.keep HB.out) (nd _) (zZ _) (by have:=hD.1.2;simp;omega)
   obtain⟨xa,xc,hxe,_,_⟩:=hD.1.1.form
   rw[List.length_map] at hxe hcl
   subst hxe
   have hd1:decide ((k:Int)<0)=false:=by simp
   have hd2:decide ((n':Int)<=(k:Int))=false:=by simp;omega
   have HCL:=Fx hcl
   have HXR:=Fx (And.intro hx hr)
   have HSM:=Fx hD.1.2
   have HDD:=Fx hD.2
   have q1:=q0.1
   have q2:=q0.2
   clear hx hr hD hcl q0
   go_wp2_with fail
   refine HCL.out.mono ?_
   rintro e w6 ⟨u,rfl,hu,hb6⟩
   obtain⟨ua,uc,rfl⟩:=aB hu
   have ho6:=(MT.ofBelow (B:=0) (Ts:=[]) hb6).ownsRow HO.out (by simp)
   have z0:=dU ho6 HXR.out.1
   have zf:=ho6.frozenAt k
   have hs:=ow ho6 k (.slice ua r.length uc)
   have hmt:=qE (Ts:=[59]) hs.2 ho6 (by simp)
   have hmt6:=(MT.ofBelow (B:=0) (Ts:=[59]) hb6).trans hmt
   have hbw:=(HB.out.trans (hb6.mono HB.out.size)).trans (hs.2.below (by have:=HB.out.size;have:=hb6.size;omega) (fun q hq=>by rw[hq];exact FA))
   have HU:=Fx (show rE w.heap.size (w6.setCell ⟨w.heap.size,k,none⟩ (.slice ua r.length uc)) (.slice ua r.length uc) r from rE.mt ⟨⟨hu.1,hu.2.imp id (fun⟨g,cap,cur,hv,hbg,hrest⟩=>⟨g,cap,cur,hv,Nat.le_trans HB.out.size hbg,hrest⟩)⟩,HSM.out⟩ hmt)
   have HS:=Fx hs.1
   have HMT:=Fx hmt6
   have HBN:=Fx hbw
   have z1:=z0.1
   have z2:=z0.2
   clear hu hb6 ho6 z0 hs hmt hmt6 hbw q1 q2 HCL
   go_wp2_with fail
   go_roundw
   case rel =>
    refine⟨k+1,R.set k _,by omega,by go_num,HS,Fx ?_,Fx ?_,HBN⟩
    ·rw[fl (by rw[HRL.out];exact hlt),List.take_add_one (l:=SA),HXR.out.2]
     exact aH.snoc HU.out (HT.out.mono fun b a hh=>hh.mt HMT.out)
    ·rw[List.drop_set_of_lt (by omega)]
     exact HDD.out
   case measure=>simp [intOf];omega
  ·obtain rfl:k=n':=by omega
   have hT:=HT.out
   rw[List.take_of_length_le (by rw[HRL.out];exact FA),List.take_of_length_le (by rw[HLN.out];exact FA)] at hT
   have HTT:=Fx hT
   clear hT
   go_wp2_with fail
   go_ret
   exact⟨_,rfl,cq.ofOwn1 HO.out HLN.out (by omega) (HTT.out.mono fun b a hh=>⟨hh.at_,hh.2⟩),HB.out⟩
