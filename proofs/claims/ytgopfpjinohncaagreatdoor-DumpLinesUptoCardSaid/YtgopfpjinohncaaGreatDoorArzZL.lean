/- Rows of the call's own. slices.SortFunc at Row: the library's laying, in plain words. slices.SortFunc at Row, by the library's contract. row.Arrange, walked. -/
import Derived.Test.YtgopfpjinohncaaGreatDoorCpuZL
import Derived.Test.YtgopfpjinohncaaGreatDoorGmL
import Derived.Test.YtgopfpjinohncaaGreatDoorApZL
import Derived.Test.YtgopfpjinohncaaGreatDoorCyL
import Derived.Test.YtgopfpjinohncaaGreatDoorProg
import Derived.Test.YtgopfpjinohncaaGreatDoorRwsZL
import Derived.Laws.OwnMore
import Derived.Shelf.SlGeneric
import Derived.Shelf.SlSortCmp.Whole1
import Derived.Ground.SlsfProg
namespace Go.Proofs.YtgopfpjinohncaaGreatDoor
open Go.RowKit
set_option linter.unusedVariables false
theorem Tryz.infoRow:(Tryz.prog.info? 59).map (fun i=>(i.zero,i.size,i.bytes))=some (some (.slice none 0 0),1,24):=by kernel_rfl
theorem ones_flat (R:List Value):(R.map fun x=>[x]).flatten=R:=by
 induction R with
 | nil=>rfl
 | cons a l ih=>simp [ih]
theorem ro_one {w0:World} {cells:List Value} {l:List (List Vl)} (h:All2 (RoC w0) cells l):∀ x∈cells.map (fun x=>[x]),∀ u∈x,u.oneCell'=true:=by
 intro x hx u hu
 obtain⟨r,_,h1,_⟩:=all2_mem h u (by
  obtain⟨y,hy,rfl⟩:=List.mem_map.1 hx
  simp at hu
  rw[hu]
  exact hy)
 obtain⟨a,c,e,_,_⟩:=h1.form
 rw[e]
 rfl
theorem all2_app2 {α β:Type} {R:α->β->Prop}:∀ {a b:List α} {c d:List β},All2 R a c->All2 R b d->All2 R (a++b) (c++d)
 | [],_,[],_,_,h=>h
 | _::_,_,_::_,_,h,k=>⟨h.1,all2_app2 h.2 k⟩
 | [],_,_::_,_,h,_=>h.elim
 | _::_,_,[],_,h,_=>h.elim
def RoO (B:Nat) (w:World) (x:Value) (r:List Vl):Prop:=w.ownsRow B 111 3 x r.length (r.map Vl.cells).flatten/\r.length<=4398046511104
theorem RoO.at_ {B:Nat} {w:World} {x:Value} {r:List Vl} (h:RoO B w x r):RowAt w x 3 (r.map Vl.cells) :=
 RowAt.ofOwn h.1 (by simp) (vl_len _) (by have:=h.2;simp;omega)
theorem RoO.mt {B:Nat} {w w':World} {x:Value} {r:List Vl} (h:RoO B w x r) (hm:MT 0 [59] w w'):RoO B w' x r:=⟨hm.ownsRow h.1 (by decide),h.2⟩
theorem rows_of_all2 {w0 w:World} {v:Value}:∀ {rows:List (List Value)} {l:List (List Vl)},All2 (VRowC w0) rows l->∃ cells,rows=cells.map (fun x=>[x])/\All2 (RoC w0) cells l
 | [],[],_=>⟨[],rfl,trivial⟩
 | r::rows,a::l,h=>by
   obtain⟨cells,h1,h2⟩:=rows_of_all2 (w:=w) (v:=v) h.2
   obtain⟨x,hx,h3⟩:=h.1
   exact⟨x::cells,by simp [hx,h1],⟨h3,h2⟩⟩
 | [],_::_,h=>h.elim
 | _::_,[],h=>h.elim
theorem RowsAt.ofOwn1 {B:Nat} {e:TypeId} {w:World} {v:Value} {n:Nat} {R:List Value} {S:List (List Vl)} (h:w.ownsRow B e 1 v n R) (hn:S.length=n) (hl:n<=8796093022208) (ha:All2 (fun x r=>RowAt w x 3 (r.map Vl.cells)/\r.length<=4398046511104) R S):RowsAt w v S:=by
 refine⟨R.map fun x=>[x],RowAt.ofOwn (by rw[ones_flat];exact h) (by rw[List.length_map,ha.length,hn]) (fun x hx=>?_) (by rw[List.length_map,ha.length,hn];exact hl),?_⟩
 ·obtain⟨y,_,rfl⟩:=List.mem_map.1 hx
  rfl
 ·clear h hn hl
  induction R generalizing S with
  | nil=>cases S with
    | nil=>trivial
    | cons _ _=>exact ha.elim
  | cons y R ih=>cases S with
    | nil=>exact ha.elim
    | cons r S=>exact⟨⟨y,rfl,ha.1⟩,ih ha.2⟩
end Go.Proofs.YtgopfpjinohncaaGreatDoor
namespace Go.Proofs
open Go.Shelf
def Tryz.sortRow_ren:Go.Shelf.Ren:=⟨fun | 6=>92 | 15=>174 | 14=>173 | 28=>226 | 29=>227 | 20=>218 | 21=>219 | 22=>220 | 23=>221 | 24=>222 | 25=>223 | 26=>224 | 27=>225 | 46=>257 | 47=>258 | 48=>259 | 49=>260 | 50=>261 | 57=>289 | n=>n,fun | 22=>45 | 24=>59 | 25=>164 | 3=>3 | 39=>262 | 0=>0 | 53=>309 | 55=>293 | 4=>4 | 46=>302 | 45=>301 | 50=>306 | 5=>5 | 9=>9 | 66=>342 | 70=>116 | 76=>389 | 77=>51 | n=>n,fun | n=>n⟩
theorem Tryz.sortRow:Go.Proofs.SlLaysF.n6 Tryz.prog Tryz.sortRow_ren := {
 mixed:=by kernel_rfl
 f6:=⟨Tryz.f92.name,by decide,Tryz.func92.trans (congrArg some (by kernel_rfl))⟩
 f14:=⟨Tryz.f173.name,by decide,Tryz.func173.trans (congrArg some (by kernel_rfl))⟩
 f15:=Tryz.func174.trans (congrArg some (by kernel_rfl))
 f20:=⟨Tryz.f218.name,by decide,Tryz.func218.trans (congrArg some (by kernel_rfl))⟩
 f21:=⟨Tryz.f219.name,by decide,Tryz.func219.trans (congrArg some (by kernel_rfl))⟩
 f22:=⟨Tryz.f220.name,by decide,Tryz.func220.trans (congrArg some (by kernel_rfl))⟩
 f23:=⟨Tryz.f221.name,by decide,Tryz.func221.trans (congrArg some (by kernel_rfl))⟩
 f24:=⟨Tryz.f222.name,by decide,Tryz.func222.trans (congrArg some (by kernel_rfl))⟩
 f25:=⟨Tryz.f223.name,by decide,Tryz.func223.trans (congrArg some (by kernel_rfl))⟩
 f26:=⟨Tryz.f224.name,by decide,Tryz.func224.trans (congrArg some (by kernel_rfl))⟩
 f27:=⟨Tryz.f225.name,by decide,Tryz.func225.trans (congrArg some (by kernel_rfl))⟩
 f28:=Tryz.func226.trans (congrArg some (by kernel_rfl))
 f29:=Tryz.func227.trans (congrArg some (by kernel_rfl))
 f46:=⟨Tryz.f257.name,by decide,Tryz.func257.trans (congrArg some (by kernel_rfl))⟩
 f47:=Tryz.func258.trans (congrArg some (by kernel_rfl))
 f48:=Tryz.func259.trans (congrArg some (by kernel_rfl))
 f49:=⟨Tryz.f260.name,by decide,Tryz.func260.trans (congrArg some (by kernel_rfl))⟩
 f50:=⟨Tryz.f261.name,by decide,Tryz.func261.trans (congrArg some (by kernel_rfl))⟩
 f57:=⟨Tryz.f289.name,by decide,Tryz.func289.trans (congrArg some (by kernel_rfl))⟩
 t0:=Tryz.underlying0
 a0:=Tryz.isAgg0
 z0:=Tryz.sizeOf0
 v0:=Tryz.zeroValue0
 t3:=Tryz.underlying3
 a3:=Tryz.isAgg3
 z3:=Tryz.sizeOf3
 v3:=Tryz.zeroValue3
 t4:=Tryz.underlying4
 a4:=Tryz.isAgg4
 z4:=Tryz.sizeOf4
 v4:=Tryz.zeroValue4
 t5:=Tryz.underlying5
 a5:=Tryz.isAgg5
 z5:=Tryz.sizeOf5
 v5:=Tryz.zeroValue5
 t9:=Tryz.underlying9
 a9:=Tryz.isAgg9
 z9:=Tryz.sizeOf9
 v9:=Tryz.zeroValue9
 t22:=Tryz.underlying45
 a22:=Tryz.isAgg45
 z22:=Tryz.sizeOf45
 v22:=Tryz.zeroValue45
 a24:=Tryz.isAgg59
 z24:=Tryz.sizeOf59
 t25:=Tryz.underlying164
 a25:=Tryz.isAgg164
 z25:=Tryz.sizeOf164
 v25:=Tryz.zeroValue164
 t39:=Tryz.underlying262
 a39:=Tryz.isAgg262
 z39:=Tryz.sizeOf262
 v39:=Tryz.zeroValue262
 t45:=Tryz.underlying301
 a45:=Tryz.isAgg301
 z45:=Tryz.sizeOf301
 v45:=Tryz.zeroValue301
 t46:=Tryz.underlying302
 a46:=Tryz.isAgg302
 z46:=Tryz.sizeOf302
 v46:=Tryz.zeroValue302
 t50:=Tryz.underlying306
 a50:=Tryz.isAgg306
 z50:=Tryz.sizeOf306
 v50:=Tryz.zeroValue306
 t53:=Tryz.underlying309
 a53:=Tryz.isAgg309
 z53:=Tryz.sizeOf309
 v53:=Tryz.zeroValue309
 t55:=Tryz.underlying293
 a55:=Tryz.isAgg293
 z55:=Tryz.sizeOf293
 v55:=Tryz.zeroValue293
 t66:=Tryz.underlying342
 a66:=Tryz.isAgg342
 z66:=Tryz.sizeOf342
 v66:=Tryz.zeroValue342
 t70:=Tryz.underlying116
 a70:=Tryz.isAgg116
 z70:=Tryz.sizeOf116
 v70:=Tryz.zeroValue116
 t76:=Tryz.underlying389
 a76:=Tryz.isAgg389
 z76:=Tryz.sizeOf389
 v76:=Tryz.zeroValue389
 t77:=Tryz.underlying51
 a77:=Tryz.isAgg51
 z77:=Tryz.sizeOf51
 v77:=Tryz.zeroValue51 }
end Go.Proofs
namespace Go.Proofs.YtgopfpjinohncaaGreatDoor
open Go.RowKit Go.Sort
set_option linter.unusedVariables false
structure RO (w0:World) where
 cell:Value
 r:List Vl
 at_:RoC w0 cell r
theorem ro_list {w0:World}:∀ {cells:List Value} {M:List (List Vl)},All2 (RoC w0) cells M->∃ el:List (RO w0),el.map RO.cell=cells/\el.map RO.r=M
 | [],[],_=>⟨[],rfl,rfl⟩
 | x::cells,r::M,h=>by
   obtain⟨el,h1,h2⟩:=ro_list h.2
   exact⟨⟨x,r,h.1⟩::el,by simp [h1],by simp [h2]⟩
 | [],_::_,h=>h.elim
 | _::_,[],h=>h.elim
theorem all2_ro {w0:World}:∀ (l:List (RO w0)),All2 (RoC w0) (l.map RO.cell) (l.map RO.r)
 | []=>trivial
 | x::l=>⟨x.at_,all2_ro l⟩
theorem RO.one {w0:World} (x:RO w0):x.cell.oneCell'=true:=by
 obtain⟨h,_⟩:=x.at_
 obtain⟨a,c,e,_,_⟩:=h.form
 rw[e]
 rfl
theorem swo_ro {w0:World}:SWO (ltOf fun x y:RO w0=>cmpRow x.r y.r) where
 irrefl x:=by simp [ltOf,cmpRow_self]
 trans x y z h1 h2:=by
  simp only[ltOf,decide_eq_true_eq] at *
  exact cmpRow_trans _ _ _ h1 h2
 ntrans x y z h1 h2:=by
  simp only[ltOf,decide_eq_false_iff_not] at *
  intro h3
  have a1:=cmpRow_anti x.r y.r
  by_cases h0:cmpRow x.r y.r=0
  ·rw[<-cmpRow_eq _ _ h0] at h2
   exact h2 h3
  ·exact h2 (cmpRow_trans _ _ _ (by omega) h3)
set_option maxRecDepth 100000 in
theorem sortR_any (w0 w:World) (g n cap:Nat) (M:List (List Vl)) (h:RoS w0 w g n cap M) (hn:M.length=n) (hl:n<4611686018427387904) :
 Calls Tryz.prog 92 #[.slice (some ⟨g,0,none⟩) n cap,.func (.func 93) #[] #[]] w fun e w'=>e=.returned (.tuple #[]) /\
  ∃ s:List (List Vl),s.Perm M/\NdW s/\RoS w0 w' g n cap s:=by
 obtain⟨cells,hro,hall,hbw⟩:=h
 obtain⟨el,he1,he2⟩:=ro_list hall
 have hel:el.length=n:=by rw[<-hn,<-he2,List.length_map]
 haveI:Inhabited (RO w0):=⟨⟨.slice none 0 0,[],RowAt.nil _ _,Nat.zero_le _⟩⟩
 have hro':w.ownsRow w0.heap.size 59 1 (.slice (some ⟨g,0,none⟩) n cap) n (el.toArray.toList.map RO.cell):=by
  rw[List.toList_toArray,he1]
  exact hro
 have hds:el.toArray.size=n:=by simpa using hel
 obtain⟨hH,hgl,hnc⟩:=own_holds1 hro' hds
 have hgb:w0.heap.size<=g:=by
  rcases hro.2 with ⟨q,_⟩ | ⟨g',_,_,hv,hb,_⟩
  ·simp at q
  ·simp only[Value.slice.injEq,Option.some.injEq,Addr.mk.injEq,and_true,true_and] at hv
   rw[hv.1]
   exact hb
 have hbm:∀ {W:World},Mod (fun j=>j=g) w W->Below w0.heap.size w0 W:=fun hm=>hbw.trans (hm.below hbw.size (fun i hi=>by rw[hi];exact hgb))
 have hcmp:CmpLays1 Tryz.prog 93 #[] RO.cell (fun x y:RO w0=>cmpRow x.r y.r) g 0 n w:=by
  intro m os dk hs x y
  have hb:=hbm (own_sorted1 (enc:=RO.cell) (m:=m) (os:=os) hro hs).2
  exact (rowCompareG_any _ x.cell y.cell x.r y.r (x.at_.1.keep hb) (y.at_.1.keep hb)).mono fun e W' hh=>⟨hh.1,hh.2.form⟩
 have eg:∀ args w,(callFunc 93 args).run Tryz.prog w=.ok (.enter 93 args) w:=enters_of Tryz.func93 (by kernel_rfl) rfl
 have hcon:=Any.slices_SortFunc Tryz.sortRow RO.cell (fun x=>x.one) (fun x y:RO w0=>cmpRow x.r y.r) swo_ro 93 #[] g 0 cap el.toArray w eg (by rw[hds];exact hcmp) hH hgl (by rw[hds];exact hl)
 rw[hds] at hcon
 refine Calls.mono hcon ?_
 rintro e w' ⟨rfl,d',m,os,hp,hs,rfl⟩
 have hd':d'.size=n:=by rw[hp.1,hds]
 have hpl:d'.toList.Perm el:=by
  have h1:=hp.2.2
  have e1:(d'.extract 0 n).toList=d'.toList:=by
   rw[Array.toList_extract]
   simp [<-hd']
   exact List.take_of_length_le (Nat.le_of_eq Array.length_toList)
  have e2:(el.toArray.extract 0 n).toList=el:=by
   rw[Array.toList_extract]
   simp [<-hel]
  rw[e1,e2] at h1
  exact h1
 have hso:=own_sorted1 (enc:=RO.cell) (m:=m) (os:=os) hro hd'
 refine⟨rfl,d'.toList.map RO.r,?_,?_,d'.toList.map RO.cell,hso.1,all2_ro _,hbm hso.2⟩
 ·rw[<-he2]
  exact hpl.map _
 ·unfold NdW
  rw[List.pairwise_map,List.pairwise_iff_getElem]
  intro i j hi hj hij
  have h1:=hs i j (Nat.zero_le _) hij (by rw[Array.length_toList] at hj;omega)
  simp only[ltOf,decide_eq_false_iff_not] at h1
  rw[Array.length_toList] at hi hj
  rw[getElem!_pos d' i hi,getElem!_pos d' j hj] at h1
  simpa using h1
end Go.Proofs.YtgopfpjinohncaaGreatDoor
namespace Go.Proofs.YtgopfpjinohncaaGreatDoor
open Go.RowKit
set_option linter.unusedVariables false
set_option maxHeartbeats 8000000 in
set_option maxRecDepth 100000 in
theorem arrange_any (w:World) (v:Value) (l:List (List Vl)) (h:RowsAt w v l) (hl:l.length<=1099511627776) :
 Calls Tryz.prog 33 #[v] w fun e w'=>∃ v',e=.returned v'/\RowsAt w' v' (arrP l)/\Below w.heap.size w w':=by
 obtain⟨i0,hi0,hz0,hz1,hz2⟩:=info_parts Tryz.infoRow
 obtain⟨ad,cap,rfl,hnc,hcm⟩:=h.form
 unfold maxLen at hcm
 obtain⟨rows,hrow,hall⟩:=h
 have hll:=hall.length
 obtain⟨cells,rfl,hcs⟩:=rows_of_all2 (w:=w) (v:=.slice none 0 0) hall
 rw[List.length_map] at hll
 have hone:∀ x∈cells.map (fun x=>[x]),∀ u∈x,u.oneCell'=true:=by
  intro x hx u hu
  obtain⟨r,_,h1,_⟩:=all2_mem hcs u (by
   obtain⟨y,hy,rfl⟩:=List.mem_map.1 hx
   simp at hu
   rw[hu]
   exact hy)
  obtain⟨a,c,e,_,_⟩:=h1.form
  rw[e]
  rfl
 have HR:=Lib.hid hrow
 have HC:=Lib.hid hcs
 have HO:=Lib.hid hone
 have HX:=Lib.hid (show (cells.map fun x=>[x]).length=l.length by rw[List.length_map,hll])
 have HL:=Lib.hid (show ∀ x∈cells.map (fun x=>[x]),x.length=1 from fun x hx=>by
  obtain⟨y,_,rfl⟩:=List.mem_map.1 hx
  rfl)
 obtain⟨SA,hSA⟩:∃ SA,SA=arrP l:=⟨_,rfl⟩
 rw[<-hSA]
 have HSA:=Lib.hid hSA
 clear hrow hcs hone hall hSA
 generalize hN:l.length=n at *
 have HN:=Lib.hid hN
 have HLL:=Lib.hid hll
 clear hN hll
 go_enter Tryz.func33,Tryz.ntmps33
 go_wp2_with (at_make;refine wpList_make_full _ rfl _ _ 45 rfl w.heap.size 59 i0 (.slice none 0 0) 1 Tryz.underlying45 hi0 hz0 hz1 _ _ _ _ n rfl rfl rfl rfl ?b2 ?b3 ?b4 ?_)
 case b2=>rw[hz2];omega
 case b3=>unfold maxLen;omega
 case b4=>omega
 intro w2 hown2 hgrow2
 have hbw2:Below w.heap.size w w2:=(Below.refl _ w).grown hgrow2 (Nat.le_refl _) (fun q hq=>by cases hq)
 have HOW2:=Lib.hid hown2
 have HBW2:=Lib.hid hbw2
 have HR2:=Lib.hid (HR.out.keep hbw2)
 clear hbw2 hown2 hgrow2
 go_wp2_with (refine wpList_copy_full rfl _ _ _ _ rfl 59 1 Tryz.underlying45 (by kernel_rfl) w.heap.size n _ rfl rfl _ w.heap.size HOW2.out (cells.map fun x=>[x]) HR2.out HX.out HL.out HO.out (Nat.le_refl _) ?_)
 intro w3 hown3 hmod3 hsz3
 have hb3:Below w.heap.size w w3:=Mod.own HBW2.out hmod3 (Nat.le_refl _)
 rw[ones_flat] at hown3
 have HS3:Hid (RoS w w3 w.heap.size n n l):=Lib.hid ⟨cells,hown3,HC.out,hb3⟩
 clear hown3 hmod3 hsz3 hb3
 have HSO:=Lib.hid (sortR_any w w3 w.heap.size n n l HS3.out HN.out (by omega))
 clear HOW2 HBW2 HR2 HS3
 go_wp2_with fail
 refine HSO.out.mono ?_
 rintro e w4 ⟨rfl,s,hperm,hnd,hs4⟩
 have hcp:=compactR_any w w4 w.heap.size n n s hs4 (by rw[hperm.length_eq,HN.out]) (by omega)
 rw[compact_arr hnd hperm,<-HSA.out] at hcp
 have HCP:=Lib.hid hcp
 clear hperm hnd hs4 hcp HSO
 go_wp2_with fail
 refine HCP.out.mono ?_
 rintro e w5 ⟨n',rfl,hn',⟨R5,ho5,ha5,hb5⟩,hlen⟩
 have HO5:=Lib.hid ho5
 have HA5:=Lib.hid ha5
 have HB5:=Lib.hid hb5
 have HLN:=Lib.hid hlen
 clear ho5 ha5 hb5 hlen HCP HX HL HO HC HR
 go_wp2_with fail
 go_loopw [17] (fun i wr=>∃ (k:Nat) (R:List Value),k<=n'/\i=.int .i64 k/\Hid (wr.ownsRow w.heap.size 59 1 (.slice (some ⟨w.heap.size,0,none⟩) n' n) n' R)/\Hid (All2 (RoO w.heap.size wr) (R.take k) (SA.take k))/\Hid (All2 (RoC w) (R.drop k) (SA.drop k))/\Hid (Below w.heap.size w wr)) (fun i _=>n' - (intOf i).toNat)
 case atStart=>exact⟨0,R5,Nat.zero_le _,rfl,HO5,Lib.hid trivial,HA5,HB5⟩
 case round =>
  obtain⟨k,R,hk,rfl,HO,HT,HD,HB⟩:=hrel
  obtain⟨wo,rfl⟩:∃ wo:World,wo=wr:=⟨_,rfl⟩
  have hRl:R.length=n':=by have:=HO.out.1;omega
  have HRL:=Lib.hid hRl
  clear hRl
  by_cases hlt:k<n'
  ·obtain⟨x,hx⟩:∃ x,R[k]? = some x:=⟨R[k]'(by rw[HRL.out];exact hlt),List.getElem?_eq_getElem (by rw[HRL.out];exact hlt)⟩
   obtain⟨r,hr⟩:∃ r,SA[k]? = some r:=⟨SA[k]'(by rw[HLN.out];exact hlt),List.getElem?_eq_getElem (by rw[HLN.out];exact hlt)⟩
   have hD:=HD.out
   rw[show R.drop k=x::R.drop (k+1) by rw[<- (List.getElem?_eq_some_iff.1 hx).2,List.getElem_cons_drop],show SA.drop k=r::SA.drop (k+1) by rw[<- (List.getElem?_eq_some_iff.1 hr).2,List.getElem_cons_drop]] at hD
   have q0:=own1_get HO.out hx
   have hcl:=clone_Val wo x (r.map Vl.cells) (hD.1.1.keep HB.out) (vl_len _) (vl_one _) (by have:=hD.1.2;simp;omega)
   obtain⟨xa,xc,hxe,_,_⟩:=hD.1.1.form
   rw[List.length_map] at hxe hcl
   subst hxe
   have hd1:decide ((k:Int)<0)=false:=by simp
   have hd2:decide ((n':Int)<=(k:Int))=false:=by simp;omega
   have HCL:=Lib.hid hcl
   have HXR:=Lib.hid (And.intro hx hr)
   have HSM:=Lib.hid hD.1.2
   have HDD:=Lib.hid hD.2
   have q1:=q0.1
   have q2:=q0.2
   clear hx hr hD hcl q0
   go_wp2_with fail
   refine HCL.out.mono ?_
   rintro e w6 ⟨u,rfl,hu,hb6⟩
   obtain⟨ua,uc,rfl⟩:=own_sl hu
   have ho6:=(MT.ofBelow (B:=0) (Ts:=[]) hb6).ownsRow HO.out (by simp)
   have z0:=own1_get ho6 HXR.out.1
   have zf:=ho6.frozenAt k
   have hs:=own1_set ho6 k (.slice ua r.length uc)
   have hmt:=mt_own (Ts:=[59]) hs.2 ho6 (by simp)
   have hmt6:=(MT.ofBelow (B:=0) (Ts:=[59]) hb6).trans hmt
   have hbw:=(HB.out.trans (hb6.mono HB.out.size)).trans (hs.2.below (by have:=HB.out.size;have:=hb6.size;omega) (fun q hq=>by rw[hq];exact Nat.le_refl _))
   have HU:=Lib.hid (show RoO w.heap.size (w6.setCell ⟨w.heap.size,k,none⟩ (.slice ua r.length uc)) (.slice ua r.length uc) r from RoO.mt ⟨⟨hu.1,hu.2.imp id (fun⟨g,cap,cur,hv,hbg,hrest⟩=>⟨g,cap,cur,hv,Nat.le_trans HB.out.size hbg,hrest⟩)⟩,HSM.out⟩ hmt)
   have HS:=Lib.hid hs.1
   have HMT:=Lib.hid hmt6
   have HBN:=Lib.hid hbw
   have z1:=z0.1
   have z2:=z0.2
   clear hu hb6 ho6 z0 hs hmt hmt6 hbw q1 q2 HCL
   go_wp2_with fail
   go_roundw
   case rel =>
    refine⟨k+1,R.set k _,by omega,by go_num,HS,Lib.hid ?_,Lib.hid ?_,HBN⟩
    ·rw[set_take (by rw[HRL.out];exact hlt),List.take_add_one (l:=SA),HXR.out.2]
     exact All2.snoc HU.out (HT.out.mono fun b a hh=>hh.mt HMT.out)
    ·rw[List.drop_set_of_lt (by omega)]
     exact HDD.out
   case measure=>simp [intOf];omega
  ·obtain rfl:k=n':=by omega
   have hT:=HT.out
   rw[List.take_of_length_le (by rw[HRL.out];exact Nat.le_refl _),List.take_of_length_le (by rw[HLN.out];exact Nat.le_refl _)] at hT
   have HTT:=Lib.hid hT
   clear hT
   go_wp2_with fail
   go_ret
   exact⟨_,rfl,RowsAt.ofOwn1 HO.out HLN.out (by omega) (HTT.out.mono fun b a hh=>⟨hh.at_,hh.2⟩),HB.out⟩
end Go.Proofs.YtgopfpjinohncaaGreatDoor
