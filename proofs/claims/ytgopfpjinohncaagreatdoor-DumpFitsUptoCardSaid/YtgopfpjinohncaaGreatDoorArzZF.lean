/- Rows of the call's own. -/
import Derived.Test.YtgopfpjinohncaaGreatDoorCpuZF
import Derived.Test.YtgopfpjinohncaaGreatDoorTblZF
import Derived.Test.YtgopfpjinohncaaGreatDoorDpF
set_option maxHeartbeats 8000000
set_option maxRecDepth 100000
set_option linter.unusedVariables false
namespace Go.Proofs.YtgopfpjinohncaaGreatDoor
open Go.Proofs.Tryz
open Go.RowKit
theorem Tryz.infoRow:(prog.info? 59).map (fun i=>(i.zero,i.size,i.bytes))=some (some (.slice none 0 0),1,24):=by kernel_rfl
theorem le (R:List Value):(R.map fun x=>[x]).flatten=R:=by
 induction R with
 | nil=>rfl
 | cons a l ih=>simp [ih]
theorem DR {w0:World} {cells:List Value} {l:List (List Vl)} (h:aH (C0 w0) cells l):∀ x∈cells.map (fun x=>[x]),∀ u∈x,u.oneCell'=true:=by
 intro x hx u hu
 obtain⟨r,_,h1,_⟩:=bm h u (by
  obtain⟨y,hy,rfl⟩:=List.mem_map.1 hx
  simp at hu
  rw[hu]
  exact hy)
 obtain⟨a,c,e,_,_⟩:=h1.form
 rw[e]
 rfl
theorem pz {α β:Type} {R:α->β->Prop}:∀ {a b:List α} {c d:List β},aH R a c->aH R b d->aH R (a++b) (c++d)
 | [],_,[],_,_,h=>h
 | _::_,_,_::_,_,h,k=>⟨h.1,pz h.2 k⟩
 | [],_,_::_,_,h,_=>h.elim
 | _::_,_,[],_,h,_=>h.elim
def rE (B:Nat) (w:World) (x:Value) (r:List Vl):Prop:=w.ownsRow B 111 3 x r.length (r.map Vl.cells).flatten/\r.length<=4398046511104
theorem rE.at_ {B:Nat} {w:World} {x:Value} {r:List Vl} (h:rE B w x r):aj w x 3 (r.map Vl.cells) :=
 aj.ofOwn h.1 (by simp) (nd _) (by have:=h.2;simp;omega)
theorem rE.mt {B:Nat} {w w':World} {x:Value} {r:List Vl} (h:rE B w x r) (hm:MT 0 [59] w w'):rE B w' x r:=⟨hm.ownsRow h.1 (by decide),h.2⟩
theorem gP {w0 w:World} {v:Value}:∀ {rows:List (List Value)} {l:List (List Vl)},aH (nK w0) rows l->∃ cells,rows=cells.map (fun x=>[x])/\aH (C0 w0) cells l
 | [],[],_=>⟨[],rfl,trivial⟩
 | r::rows,a::l,h=>by
   obtain⟨cells,h1,h2⟩:=gP (w:=w) (v:=v) h.2
   obtain⟨x,hx,h3⟩:=h.1
   exact⟨x::cells,by simp [hx,h1],⟨h3,h2⟩⟩
 | [],_::_,h=>h.elim
 | _::_,[],h=>h.elim
theorem cq.ofOwn1 {B:Nat} {e:TypeId} {w:World} {v:Value} {n:Nat} {R:List Value} {S:List (List Vl)} (h:w.ownsRow B e 1 v n R) (hn:S.length=n) (hl:n<=8796093022208) (ha:aH (fun x r=>aj w x 3 (r.map Vl.cells)/\r.length<=4398046511104) R S):cq w v S:=by
 refine⟨R.map fun x=>[x],aj.ofOwn (by rw[le];exact h) (by rw[List.length_map,ha.length,hn]) (fun x hx=>?_) (by rw[List.length_map,ha.length,hn];exact hl),?_⟩
 ·obtain⟨y,_,rfl⟩:=List.mem_map.1 hx
  rfl
 ·clear h hn hl
  induction R generalizing S with
  | nil=>cases S with
    | nil=>trivial
    | cons _ _=>exact ha.elim
  | cons y R ih=>cases S with
    | nil=>exact ha.elim
    | cons r S=>exact⟨⟨y,rfl,ha.1⟩,ih ha.2⟩
def oN (B:Nat) (w:World) (v:Value) (l:List (List Vl)):Prop:=∃ R,w.ownsRow B 59 1 v l.length R/\aH (rE B w) R l
theorem rE.mtAny {B:Nat} {w w':World} {x:Value} {r:List Vl} {Ts:List TypeId} {B':Nat} (h:rE B w x r) (hm:MT B' Ts w w') (ht:111 ∉ Ts):rE B w' x r:=⟨hm.ownsRow h.1 ht,h.2⟩
theorem rE.low {B B':Nat} {w:World} {x:Value} {r:List Vl} (h:rE B w x r) (hb:B'<=B):rE B' w x r:=⟨World.ownsRow.low h.1 hb,h.2⟩
theorem oN.mt {B B':Nat} {w w':World} {v:Value} {l:List (List Vl)} {Ts:List TypeId} (h:oN B w v l) (hm:MT B' Ts w w') (h1:59 ∉ Ts) (h2:111 ∉ Ts):oN B w' v l:=by
 obtain⟨R,h3,h4⟩:=h
 exact⟨R,hm.ownsRow h3 h1,h4.mono fun b a hh=>hh.mtAny hm h2⟩
theorem oN.low {B B':Nat} {w:World} {v:Value} {l:List (List Vl)} (h:oN B w v l) (hb:B'<=B):oN B' w v l:=by
 obtain⟨R,h3,h4⟩:=h
 exact⟨R,World.ownsRow.low h3 hb,h4.mono fun b a hh=>hh.low hb⟩
theorem oN.at_ {B:Nat} {w:World} {v:Value} {l:List (List Vl)} (h:oN B w v l) (hl:l.length<=8796093022208):cq w v l:=by
 obtain⟨R,h3,h4⟩:=h
 exact cq.ofOwn1 h3 rfl hl (h4.mono fun b a hh=>⟨hh.at_,hh.2⟩)
theorem ql (w:World) (v:Value) (l:List (List Vl)) (h:cq w v l) (hn:l.length<=1099511627776) :
 Calls prog 29 #[v] w fun e w'=>∃ v',e=.returned v'/\oN w.heap.size w' v' l/\Below w.heap.size w w':=by
 obtain⟨ic,hic,hc0,hc1,hc2⟩:=info_parts Tryz.infoRow
 obtain⟨ad,cap,rfl,hnc,hcm⟩:=h.form
 unfold maxLen at hcm
 have HR:=Fx h
 clear h
 generalize hN:l.length=n at *
 have HN:=Fx hN
 clear hN
 go_enter func29,ntmps29
 go_wp2_with (at_make;refine wpList_make_full _ rfl _ _ 45 rfl w.heap.size 59 ic (.slice none 0 0) 1 underlying45 hic hc0 hc1 _ _ _ _ n rfl rfl rfl rfl ?b2 ?b3 ?b4 ?_)
 case b2=>rw[hc2];omega
 case b3=>unfold maxLen;omega
 case b4=>omega
 intro w5 hown5 hgrow5
 have hb5:Below w.heap.size w w5:=Below.grown Fy hgrow5 FA (fun q hq=>by cases hq)
 have HO5:=Fx hown5
 have HB5:=Fx hb5
 clear hown5 hgrow5 hb5
 go_wp2_with fail
 go_loopw [4] (fun i wr=>∃ (k:Nat) (R:List Value),k<=n/\i=.int .i64 k/\Hid (wr.ownsRow w.heap.size 59 1 (.slice (some ⟨w.heap.size,0,none⟩) n n) n R)/\Hid (aH (rE w.heap.size wr) (R.take k) (l.take k))/\Hid (Below w.heap.size w wr)) (fun i _=>n - (intOf i).toNat)
 case atStart=>exact⟨0,_,Fz,rfl,HO5,Fx trivial,HB5⟩
 case round =>
  obtain⟨k,R,hk,rfl,OW,AL,BW⟩:=hrel
  obtain⟨wo,rfl⟩:∃ wo:World,wo=wr:=⟨_,rfl⟩
  have HRL:=Fx (show R.length=n by have:=OW.out.1;omega)
  by_cases hkn:k<n
  ·obtain⟨c,hc⟩:∃ c,l[k]? = some c:=⟨l[k]'(by rw[HN.out];exact hkn),FD (by rw[HN.out];exact hkn)⟩
   obtain⟨b,off,cap',rv,hv,_,_,hbl,q0,hrow,hrl⟩:=(HR.out.keep BW.out).get hc
   rw[HN.out] at hv
   simp only[Value.slice.injEq,true_and] at hv
   obtain⟨rfl,rfl⟩:=hv
   simp only[Nat.mul_one] at q0
   have hdk:decide ((k:Int)<0)=false:=by simp
   have hdn:decide ((n:Int)<=(k:Int))=false:=by simp;omega
   have HCR:=Fx (tW wo rv c hrow hrl)
   obtain⟨xa,xc,rfl,_,_⟩:=hrow.form
   have HCC:=Fx hc
   have HRW:=Fx hrl
   clear hc hrow
   rw[List.length_map] at q0 HCR
   obtain⟨cn,hcn⟩:∃ cn,c.length=cn:=⟨_,rfl⟩
   rw[hcn] at q0 HCR HRW
   have HCN:=Fx hcn
   clear hcn hrl
   go_wp2_with fail
   refine HCR.out.mono ?_
   rintro e w6 ⟨u,rfl,hu,hb6⟩
   obtain⟨ua,uc,rfl⟩:=aB hu
   have ho6:=(MT.ofBelow (B:=0) (Ts:=[]) hb6).ownsRow OW.out (by simp)
   have zl:=ho6.lt w.heap.size rfl
   obtain⟨z,hz⟩:∃ z,R[k]? = some z:=⟨R[k]'(by rw[HRL.out];exact hkn),FD (by rw[HRL.out];exact hkn)⟩
   have z0:=dU ho6 hz
   have zf:=ho6.frozenAt k
   have hs:=ow ho6 k (.slice ua cn uc)
   have hmt:=qE (Ts:=[59]) hs.2 ho6 (by simp)
   have hmt6:=(MT.ofBelow (B:=0) (Ts:=[59]) hb6).trans hmt
   have hbw:=(BW.out.trans (hb6.mono BW.out.size)).trans (hs.2.below (by have:=BW.out.size;have:=hb6.size;omega) (fun q hq=>by rw[hq];exact FA))
   have HU:=Fx (show rE w.heap.size (w6.setCell ⟨w.heap.size,k,none⟩ (.slice ua cn uc)) (.slice ua cn uc) c from rE.mtAny ⟨by rw[HCN.out];exact World.ownsRow.low hu BW.out.size,by rw[HCN.out];exact HRW.out⟩ hmt (by decide))
   have HS:=Fx hs.1
   have HMT:=Fx hmt6
   have HBN:=Fx hbw
   have z1:=z0.1
   have z2:=z0.2
   clear hu hb6 ho6 z0 hs hmt hmt6 hbw zl HCR hz
   go_wp2_with fail
   go_roundw
   case rel =>
    refine⟨k+1,R.set k _,by omega,by go_num,HS,Fx ?_,HBN⟩
    rw[fl (by rw[HRL.out];exact hkn),List.take_add_one (l:=l),HCC.out]
    exact aH.snoc HU.out (AL.out.mono fun b a hh=>hh.mtAny HMT.out (by decide))
   case measure=>simp [intOf];omega
  ·obtain rfl:k=n:=by omega
   have hal:=AL.out
   rw[List.take_of_length_le (by rw[HRL.out];exact FA),List.take_of_length_le (by rw[HN.out];exact FA)] at hal
   have HAL:=Fx hal
   clear hal
   go_wp2_with fail
   go_ret
   exact⟨_,rfl,⟨R,by rw[HN.out];exact OW.out,HAL.out⟩,BW.out⟩
def tE (B:Nat) (w:World) (row:List Value) (t:eC):Prop:=∃ y,row=[.string ⟨t.rel.toArray⟩,y]/\oN B w y t.rows
theorem tE.mt {B B':Nat} {w w':World} {row:List Value} {t:eC} {Ts:List TypeId} (h:tE B w row t) (hm:MT B' Ts w w') (h1:59 ∉ Ts) (h2:111 ∉ Ts):tE B w' row t:=by
 obtain⟨y,rfl,h3⟩:=h
 exact⟨y,rfl,h3.mt hm h1 h2⟩
theorem tE.len {B:Nat} {w:World} {row:List Value} {t:eC} (h:tE B w row t):row.length=2:=by
 obtain⟨y,rfl,_⟩:=h
 rfl
def Ek (B:Nat) (w:World) (v:Value) (l:List eC):Prop:=∃ rows:List (List Value),w.ownsRow B 47 2 v l.length rows.flatten/\aH (tE B w) rows l
theorem Ek.at_ {B:Nat} {w:World} {v:Value} {l:List eC} (h:Ek B w v l) (hl:l.length<=8796093022208) (hr:∀ t∈l,t.rows.length<=8796093022208):du w v l:=by
 obtain⟨rows,h1,h2⟩:=h
 have hll:=h2.length
 refine⟨rows,aj.ofOwn h1 hll.symm (fun x hx=>?_) (by omega),ep h2 fun c x hx hh=>?_⟩
 ·obtain⟨t,_,ht⟩:=bm h2 x hx
  exact ht.len
 ·obtain⟨y,rfl,h3⟩:=hh
  exact⟨y,rfl,h3.at_ (hr x hx)⟩
theorem Tryz.infoTbc:(prog.info? 47).map (fun i=>(i.zero,i.size,i.bytes))=some (some (.agg #[.string ⟨#[]⟩,.slice none 0 0]),2,40):=by kernel_rfl
theorem rk (w:World) (v:Value) (l:List eC) (h:du w v l) (hn:l.length<=1099511627776) (hrs:∀ t∈l,t.rows.length<=1099511627776) :
 Calls prog 10 #[v] w fun e w'=>∃ v',e=.returned v'/\Ek w.heap.size w' v' l/\Below w.heap.size w w':=by
 obtain⟨ic,hic,hc0,hc1,hc2⟩:=info_parts Tryz.infoTbc
 obtain⟨ad,cap,rfl,hnc,hcm⟩:=h.form
 unfold maxLen at hcm
 have HR:=Fx h
 have HRS:=Fx hrs
 clear h hrs
 generalize hN:l.length=n at *
 have HN:=Fx hN
 clear hN
 go_enter func10,ntmps10
 go_wp2_with (at_make;refine wpList_make_full _ rfl _ _ 23 rfl w.heap.size 47 ic (.agg #[.string ⟨#[]⟩,.slice none 0 0]) 2 underlying23 hic hc0 hc1 _ _ _ _ n rfl rfl rfl rfl ?b2 ?b3 ?b4 ?_)
 case b2=>rw[hc2];omega
 case b3=>unfold maxLen;omega
 case b4=>omega
 intro w5 hown5 hgrow5
 obtain⟨ko,hr0,hr1,hr2⟩:=fy 2 n _ hown5.1
 rw[<-hr2] at hown5
 have hb5:Below w.heap.size w w5:=Below.grown Fy hgrow5 FA (fun q hq=>by cases hq)
 have HO5:=Fx hown5
 have HB5:=Fx hb5
 have HRL:=Fx (And.intro hr0 hr1)
 clear hown5 hgrow5 hb5 hr0 hr1 hr2
 go_wp2_with fail
 go_loopw [4] (fun i wr=>∃ (k:Nat) (rows:List (List Value)),k<=n/\i=.int .i64 k/\Hid (wr.ownsRow w.heap.size 47 2 (.slice (some ⟨w.heap.size,0,none⟩) n n) n rows.flatten)/\Hid (rows.length=n/\∀ x∈rows,x.length=2)/\Hid (aH (tE w.heap.size wr) (rows.take k) (l.take k))/\Hid (Below w.heap.size w wr)) (fun i _=>n - (intOf i).toNat)
 case atStart=>exact⟨0,ko,Fz,rfl,HO5,HRL,Fx trivial,HB5⟩
 case round =>
  obtain⟨k,rows,hk,rfl,OW,RL,AL,BW⟩:=hrel
  obtain⟨wo,rfl⟩:∃ wo:World,wo=wr:=⟨_,rfl⟩
  by_cases hkn:k<n
  ·obtain⟨c,hc⟩:∃ c,l[k]? = some c:=⟨l[k]'(by rw[HN.out];exact hkn),FD (by rw[HN.out];exact hkn)⟩
   obtain⟨b,off,cap',rv,hv,_,_,hbl,q0,q1,hrow⟩:=(HR.out.keep BW.out).get hc
   rw[HN.out] at hv
   simp only[Value.slice.injEq,true_and] at hv
   obtain⟨rfl,rfl⟩:=hv
   have hdk:decide ((k:Int)<0)=false:=by simp
   have hdn:decide ((n:Int)<=(k:Int))=false:=by simp;omega
   have HCR:=Fx (ql wo.drew rv c.rows (hrow.keep (ay Fy)) (HRS.out c (FC hc)))
   obtain⟨xa,xc,rfl,_,_⟩:=hrow.form
   have HCC:=Fx hc
   have HQ:=Fx (And.intro q0 (And.intro q1 hbl))
   obtain⟨cn,hcn⟩:∃ cn,c.rows.length=cn:=⟨_,rfl⟩
   rw[hcn] at HCR HQ
   have HCN:=Fx hcn
   clear hc hrow hcn q0 q1 hbl
   go_upto_region 5 with fail
   obtain⟨SS,hSS⟩:∃ SS:World->Prop,SS=fun W=>W.cell? ⟨b,off+k * 2,none⟩=some (.string ⟨c.rel.toArray⟩)/\W.cell? ⟨b,off+k * 2+1,none⟩=some (.slice xa cn xc)/\b<W.heap.size:=⟨_,rfl⟩
   have HSC:=Fx (fun W (q:SS W)=>(by rw[hSS] at q;exact q:W.cell? ⟨b,off+k * 2,none⟩=some (.string ⟨c.rel.toArray⟩)/\W.cell? ⟨b,off+k * 2+1,none⟩=some (.slice xa cn xc)/\b<W.heap.size))
   have HSI:=Fx (fun W (q:W.cell? ⟨b,off+k * 2,none⟩=some (.string ⟨c.rel.toArray⟩)/\W.cell? ⟨b,off+k * 2+1,none⟩=some (.slice xa cn xc)/\b<W.heap.size)=>(by rw[hSS];exact q:SS W))
   clear hSS
   have HSS:SS wo.drew:=HSI.out _ (HQ.out)
   refine am.start SS 15 (by kernel_rfl) ?_
   refine am.tk 0 14 HSS ?_
   refine am.tk 1 15 HSS ?_
   refine am.tk 2 16 HSS ?_
   refine am.tk 3 17 HSS ?_
   refine am.tk 4 18 HSS ?_
   refine am.tk 5 19 HSS ?_
   refine am.tk 6 20 HSS ?_
   refine am.tk 7 21 HSS ?_
   refine am.on 8 (fun K hK=>?_)
   go_simp
   refine hK.out _ _ (fun _=>HSS) ?_
   clear hK K
   try simp only[FG]
   refine am.on 9 (fun K hK=>?_)
   go_simp
   refine hK.out _ _ (fun _=>HSS) ?_
   clear hK K
   try simp only[FG]
   refine am.on 10 (fun K hK=>?_)
   go_simp
   refine hK.out _ _ (fun _=>HSS) ?_
   clear hK K
   try simp only[FG]
   refine am.tk 11 25 HSS ?_
   refine am.on 12 (fun K hK=>?_)
   go_simp
   refine HCR.out.mono ?_
   rintro e w6 ⟨u,rfl,hu,hb6⟩
   obtain⟨ua,uc,hue⟩:∃ ua uc,u=.slice ua cn uc:=by
    obtain⟨R,h3,_⟩:=hu
    obtain⟨ua,uc,rfl⟩:=aB h3
    exact⟨ua,uc,by rw[HCN.out]⟩
   subst hue
   have hb7:Below wo.heap.size wo w6:=dZ (ay Fy) hb6
   have HU:=Fx (hu.low (show w.heap.size<=_ from BW.out.size))
   have HB7:=Fx hb7
   have HO6:=Fx ((MT.ofBelow (B:=0) (Ts:=[]) hb7).ownsRow OW.out (by simp))
   clear HSS
   have HSS:=HSI.out w6 ⟨(hb7.cell (p:=⟨b,off+k * 2,none⟩) HQ.out.2.2).trans HQ.out.1,(hb7.cell (p:=⟨b,off+k * 2+1,none⟩) HQ.out.2.2).trans HQ.out.2.1,Nat.lt_of_lt_of_le HQ.out.2.2 hb7.size⟩
   refine hK.out _ _ (fun _=>HSS) ?_
   clear hK K hu hb6 hb7 HCR
   try simp only[FG]
   refine am.tk 13 27 HSS ?_
   refine am.tk 14 28 HSS ?_
   refine am.on 15 (fun K hK=>?_)
   refine my rfl 47 _ _ rfl w.heap.size k 47 2 w.heap.size n n rows _ rfl rfl HO6.out RL.out.2 RL.out.1 hkn rfl (by kernel_rfl) (by simp [Value.oneCell']) ?_
   intro w7 h7 m7 z7
   refine hK.out _ _ (fun h=>by simp at h) ?_
   clear hK K
   refine am.done (by kernel_rfl) ?_
   clear HSC HSI HSS
   have hmt:=qE (Ts:=[47]) m7 HO6.out (by simp)
   have hall:aH (tE w.heap.size w7) ((rows.set k [.string ⟨c.rel.toArray⟩,.slice ua cn uc]).take (k+1)) (l.take (k+1)):=by
    rw[fl (by rw[RL.out.1];exact hkn),List.take_add_one (l:=l),HCC.out]
    exact aH.snoc ⟨_,rfl,HU.out.mt hmt (by decide) (by decide)⟩ (AL.out.mono fun q a hh=>(hh.mt (MT.ofBelow (B:=0) (Ts:=[]) HB7.out) (by simp) (by simp)).mt hmt (by decide) (by decide))
   have HS:=Fx h7
   have HAL:=Fx hall
   have HBN:=Fx (aq.own (BW.out.trans (HB7.out.mono BW.out.size)) m7 FA)
   clear h7 m7 z7 hmt hall
   go_wp2_with fail
   go_roundw
   case rel=>exact⟨k+1,_,by omega,by go_num,HS,Fx ⟨by rw[List.length_set];exact RL.out.1,mG RL.out.2 rfl⟩,HAL,HBN⟩
   case measure=>simp [intOf];omega
  ·obtain rfl:k=n:=by omega
   have hal:=AL.out
   rw[List.take_of_length_le (by rw[RL.out.1];exact FA),List.take_of_length_le (by rw[HN.out];exact FA)] at hal
   have HAL:=Fx hal
   clear hal
   go_wp2_with fail
   go_ret
   exact⟨_,rfl,⟨rows,by rw[HN.out];exact OW.out,HAL.out⟩,BW.out⟩
def rA (B:Nat) (w:World) (row:List Value) (q:cf):Prop:=∃ hv av,row=[.string ⟨q.name.toArray⟩,hv,av]/\aV B w hv q.head/\∃ rows,w.ownsRow B 105 2 av q.atoms.length (List.flatten rows)/\aH (mg B w) rows q.atoms
theorem rA.mt {B B':Nat} {w w':World} {row:List Value} {q:cf} {Ts:List TypeId} (h:rA B w row q) (hm:MT B' Ts w w') (h1:9 ∉ Ts) (h2:105 ∉ Ts) (h3:113 ∉ Ts):rA B w' row q:=by
 obtain⟨hv,av,rfl,h4,rows,h5,h6⟩:=h
 exact⟨hv,av,rfl,hm.ownsRow h4 h1,rows,hm.ownsRow h5 h2,h6.mono fun b a hh=>hh.mt hm h3⟩
theorem rA.len {B:Nat} {w:World} {row:List Value} {q:cf} (h:rA B w row q):row.length=3:=by
 obtain⟨hv,av,rfl,_⟩:=h
 rfl
def DW (B:Nat) (w:World) (v:Value) (l:List cf):Prop:=∃ rows:List (List Value),w.ownsRow B 50 3 v l.length rows.flatten/\aH (rA B w) rows l
def DV (l:List cf):Prop:=∀ q∈l,q.head.length<=8796093022208/\q.atoms.length<=3518437208780/\∀ a∈q.atoms,a.ts.length<=2932031007317
theorem DW.at_ {B:Nat} {w:World} {v:Value} {l:List cf} (h:DW B w v l) (hl:l.length<=8796093022208) (hr:DV l):bZ w v l:=by
 obtain⟨rows,h1,h2⟩:=h
 have hll:=h2.length
 refine⟨rows,aj.ofOwn h1 hll.symm (fun x hx=>?_) (by omega),ep h2 fun c x hx hh=>?_⟩
 ·obtain⟨t,_,ht⟩:=bm h2 x hx
  exact ht.len
 ·obtain⟨hv,av,rfl,h3,rws,h4,h5⟩:=hh
  obtain⟨q1,q2,q3⟩:=hr x hx
  exact⟨hv,av,rfl,aV.strs h3 q1,yQ h4 rfl h5 (by omega) q3⟩
theorem Tryz.infoQrc:(prog.info? 50).map (fun i=>(i.zero,i.size,i.bytes))=some (some (.agg #[.string ⟨#[]⟩,.slice none 0 0,.slice none 0 0]),3,64):=by kernel_rfl
theorem rD (w:World) (v:Value) (l:List cf) (h:bZ w v l) (hn:l.length<=1099511627776) (hrs:DV l) :
 Calls prog 11 #[v] w fun e w'=>∃ v',e=.returned v'/\DW w.heap.size w' v' l/\Below w.heap.size w w':=by
 obtain⟨ic,hic,hc0,hc1,hc2⟩:=info_parts Tryz.infoQrc
 obtain⟨ad,cap,rfl,hnc,hcm⟩:=h.form
 unfold maxLen at hcm
 have HR:=Fx h
 have HRS:=Fx hrs
 clear h hrs
 generalize hN:l.length=n at *
 have HN:=Fx hN
 clear hN
 go_enter func11,ntmps11
 go_wp2_with (at_make;refine wpList_make_full _ rfl _ _ 24 rfl w.heap.size 50 ic (.agg #[.string ⟨#[]⟩,.slice none 0 0,.slice none 0 0]) 3 underlying24 hic hc0 hc1 _ _ _ _ n rfl rfl rfl rfl ?b2 ?b3 ?b4 ?_)
 case b2=>rw[hc2];omega
 case b3=>unfold maxLen;omega
 case b4=>omega
 intro w5 hown5 hgrow5
 obtain⟨ko,hr0,hr1,hr2⟩:=fy 3 n _ hown5.1
 rw[<-hr2] at hown5
 have hb5:Below w.heap.size w w5:=Below.grown Fy hgrow5 FA (fun q hq=>by cases hq)
 have HO5:=Fx hown5
 have HB5:=Fx hb5
 have HRL:=Fx (And.intro hr0 hr1)
 clear hown5 hgrow5 hb5 hr0 hr1 hr2
 go_wp2_with fail
 go_loopw [10] (fun i wr=>∃ (k:Nat) (rows:List (List Value)),k<=n/\i=.int .i64 k/\Hid (wr.ownsRow w.heap.size 50 3 (.slice (some ⟨w.heap.size,0,none⟩) n n) n rows.flatten)/\Hid (rows.length=n/\∀ x∈rows,x.length=3)/\Hid (aH (rA w.heap.size wr) (rows.take k) (l.take k))/\Hid (Below w.heap.size w wr)) (fun i _=>n - (intOf i).toNat)
 case atStart=>exact⟨0,ko,Fz,rfl,HO5,HRL,Fx trivial,HB5⟩
 case round =>
  obtain⟨k,rows,hk,rfl,OW,RL,AL,BW⟩:=hrel
  obtain⟨wo,rfl⟩:∃ wo:World,wo=wr:=⟨_,rfl⟩
  by_cases hkn:k<n
  ·obtain⟨c,hc⟩:∃ c,l[k]? = some c:=⟨l[k]'(by rw[HN.out];exact hkn),FD (by rw[HN.out];exact hkn)⟩
   obtain⟨b,off,cap',hv',av',hv,_,_,hbl,q0,q1,q2,hh,ha⟩:=(HR.out.keep BW.out).get hc
   rw[HN.out] at hv
   simp only[Value.slice.injEq,true_and] at hv
   obtain⟨rfl,rfl⟩:=hv
   have hdk:decide ((k:Int)<0)=false:=by simp
   have hdn:decide ((n:Int)<=(k:Int))=false:=by simp;omega
   have HCR:=Fx (xF wo ⟨c.name.toArray⟩ hv' av' c.head c.atoms hh ha (HRS.out c (FC hc)).2.1)
   obtain⟨xa,xc,rfl,_,_⟩:=hh.form
   obtain⟨ya,yc,rfl,_,_⟩:=ha.form
   have HCC:=Fx hc
   clear hc hh ha
   obtain⟨hn1,hhn⟩:∃ hn1,c.head.length=hn1:=⟨_,rfl⟩
   obtain⟨an1,han⟩:∃ an1,c.atoms.length=an1:=⟨_,rfl⟩
   rw[hhn,han] at HCR
   rw[hhn] at q1
   rw[han] at q2
   have HHN:=Fx (And.intro hhn han)
   clear hhn han
   go_wp2_with fail
   refine HCR.out.mono ?_
   rintro e w6 ⟨ghv,gav,gr,rfl,g1,g2,g3,_,hb6⟩
   obtain⟨ua,uc,rfl⟩:=aB g1
   obtain⟨va,vc,rfl⟩:=aB g2
   rw[HHN.out.1] at g1 ⊢
   rw[HHN.out.2] at g2 ⊢
   have ho6:=(MT.ofBelow (B:=0) (Ts:=[]) hb6).ownsRow OW.out (by simp)
   have HO6:=Fx ho6
   have HB6:=Fx hb6
   have hq:rA w.heap.size w6 [.string ⟨c.name.toArray⟩,.slice ua hn1 uc,.slice va an1 vc] c:=⟨_,_,rfl,World.ownsRow.low (show World.ownsRow _ _ _ _ _ _ _ from g1) BW.out.size,gr,World.ownsRow.low (by rw[HHN.out.2];exact g2) BW.out.size,g3.mono fun b a hh=>by
    obtain⟨tv,e,ho⟩:=hh
    exact⟨tv,e,World.ownsRow.low ho BW.out.size⟩⟩
   have HQ:=Fx hq
   clear ho6 hb6 g1 g2 g3 hq HCR
   go_wp2_with (refine dR rfl 50 _ _ rfl w.heap.size k 50 3 w.heap.size n n rows _ rfl rfl HO6.out RL.out.2 RL.out.1 hkn rfl (by kernel_rfl) (by simp [Value.oneCell']) ?_)
   intro w7 h7 m7 z7
   have hmt:=qE (Ts:=[50]) m7 HO6.out (by simp)
   have hall:aH (rA w.heap.size w7) ((rows.set k [.string ⟨c.name.toArray⟩,.slice ua hn1 uc,.slice va an1 vc]).take (k+1)) (l.take (k+1)):=by
    rw[fl (by rw[RL.out.1];exact hkn),List.take_add_one (l:=l),HCC.out]
    exact aH.snoc (HQ.out.mt hmt (by decide) (by decide) (by decide)) (AL.out.mono fun q a hh=>(hh.mt (MT.ofBelow (B:=0) (Ts:=[]) HB6.out) (by simp) (by simp) (by simp)).mt hmt (by decide) (by decide) (by decide))
   have HS:=Fx h7
   have HAL:=Fx hall
   have HBN:=Fx (aq.own (BW.out.trans (HB6.out.mono BW.out.size)) m7 FA)
   clear h7 m7 z7 hmt hall q0 q1 q2
   go_wp2_with fail
   go_roundw
   case rel=>exact⟨k+1,_,by omega,by go_num,HS,Fx ⟨by rw[List.length_set];exact RL.out.1,mG RL.out.2 rfl⟩,HAL,HBN⟩
   case measure=>simp [intOf];omega
  ·obtain rfl:k=n:=by omega
   have hal:=AL.out
   rw[List.take_of_length_le (by rw[RL.out.1];exact FA),List.take_of_length_le (by rw[HN.out];exact FA)] at hal
   have HAL:=Fx hal
   clear hal
   go_wp2_with fail
   go_ret
   exact⟨_,rfl,⟨rows,by rw[HN.out];exact OW.out,HAL.out⟩,BW.out⟩
