/- DumpFits, walked, over what command.Parse, command.Text, dump.Lines and awake tell. -/
import Derived.Test.YtgopfpjinohncaaGreatDoorFd0ZF
import Derived.Test.YtgopfpjinohncaaGreatDoorDwF
set_option maxHeartbeats 16000000
set_option maxRecDepth 100000
set_option linter.unusedVariables false
namespace Go.Proofs.YtgopfpjinohncaaGreatDoor
open Go.Proofs.Tryz
open Go.RowKit
def Bf (n:Nat) (l:List jT) (k:Nat) (lb:List eP):Prop:=(k<=n/\lb=[])∨(∃ j b,k=n+j+1/\l[j]? = some b/\lb=b.chgs)∨n+l.length<k
theorem Bf.nilK {n k:Nat} {l:List jT} {lb:List eP} (h:Bf n l k lb) (hk:k<n):lb=[]:=by
 rcases h with h | ⟨j,b,h,_⟩ | h
 ·exact h.2
 ·omega
 ·omega
def EE (rels:List aU) (qs:List cf) (l:List jT) (k:Nat) (s:List UInt8) (c:mf):Prop :=
 wJ s c/\((∃ r,rels[k]? = some r/\c=C6 r)∨(∃ j b,k=rels.length+j/\l[j]? = some b/\c=Ck b/\s=b.line/\b.ch≠[]/\∀ r∈b.ch,dj r=true/\∀ u∈r,bG u)∨(∃ j q,k=rels.length+l.length+j/\qs[j]? = some q/\c=wC q))
theorem AQ.line {rels:List aU} {qs:List cf} {l:List jT} {LS:List (List UInt8)} (h:AQ rels qs l LS) {k:Nat} (hk:k<LS.length):∃ s c,LS[k]? = some s/\EE rels qs l k s c:=by
 have hl:=h.len
 rcases Nat.lt_or_ge k rels.length with h1 | h1
 ·have h2:rels[k]? = some rels[k]:=FD h1
  obtain⟨h3,h4⟩:=h.rel k _ h2
  exact⟨_,_,h3,h4,.inl ⟨_,h2,rfl⟩⟩
 ·obtain⟨j,rfl⟩:∃ j,k=rels.length+j:=⟨k - rels.length,by omega⟩
  rcases Nat.lt_or_ge j l.length with h5 | h5
  ·have h2:l[j]? = some l[j]:=FD h5
   obtain⟨h3,h4,h6,h7⟩:=h.bat j _ h2
   exact⟨_,_,h3,h4,.inr (.inl ⟨_,_,rfl,h2,rfl,rfl,h6,h7⟩)⟩
  ·obtain⟨i,rfl⟩:∃ i,j=l.length+i:=⟨j - l.length,by omega⟩
   have h6:i<qs.length:=by omega
   have h2:qs[i]? = some qs[i]:=FD h6
   obtain⟨h3,h4⟩:=h.view i _ h2
   rw[Nat.add_assoc] at h3
   exact⟨_,_,h3,h4,.inr (.inr ⟨_,_,by omega,h2,rfl⟩)⟩
theorem xJ (w:World) (rv tv qv:Value) (rels:List aU) (data:List eC) (qs:List cf) (hR:bj w rv rels) (hT:du w tv data) (hQ:bZ w qv qs) (bR:AD rels) (bT:∀ t∈data,gk t.rows) (bQ:∀ q∈qs,iG q)
 (nR:rels.length<=1048576) (nD:data.length<=1048576) (nT:dy data<=1048576) (nQ:qs.length<=1048576)
 (hDL:∀ (W:World) (v1 v2 v3:Value),Below w.heap.size w W->bj W v1 rels->du W v2 data->bZ W v3 qs->Calls prog 12 #[v1,v2,v3] W fun e w'=>∃ v,e=.returned (.tuple #[v,.int .i64 (hO rels data qs)])/\aV W.heap.size w' v (if hO rels data qs=0 then fV rels data qs else [])/\Below W.heap.size W w')
 (hAW:∀ W:World,Below w.heap.size w W->Calls prog 14 #[] W fun e w'=>e=.returned (.bool true)/\Below W.heap.size W w')
 (hPA:∀ (W:World) (s:List UInt8) (c:mf),Below w.heap.size w W->wJ s c->Calls prog 22 #[.string ⟨s.toArray⟩] W fun e w'=>∃ cells,e=.returned (.tuple #[.agg cells,.int .i64 0,.int .i64 0])/\lX w' cells c/\Below W.heap.size W w')
 (hTX:∀ (W:World) (cells:Array Value) (s:List UInt8) (c:mf),Below w.heap.size w W->lX W cells c->wJ s c->Calls prog 23 #[.agg cells] W fun e w'=>e=.returned (.string ⟨s.toArray⟩)/\Below W.heap.size W w') :
 Calls prog 6 #[rv,tv,qv] w fun e w'=>e=.returned (.bool true)/\Below w.heap.size w w':=by
 have HCQ:=Fx (hQ.sml bQ)
 have hc1:=qH w rv rels hR (by omega)
 have HRC:=Fx hR.colsS
 obtain⟨ta,tc,rfl,htn,htm⟩:=hT.form
 obtain⟨ra,rc,rfl,hrn,hrm⟩:=hR.form
 obtain⟨qa,qc,rfl,hqn,hqm⟩:=hQ.form
 have HR:=Fx hR
 have HT:=Fx hT
 have HQ:=Fx hQ
 have BR:=Fx bR
 have BT:=Fx bT
 have BQ:=Fx bQ
 have HDL:=Fx hDL
 have HAWK:=Fx hAW
 have HPA:=Fx hPA
 have HTX:=Fx hTX
 have HC1:=Fx hc1
 clear hR hT hQ bR bT bQ hDL hAW hPA hTX hc1 hrn hrm hqn hqm htn
 obtain⟨rn,hrn⟩:∃ rn,rels.length=rn:=⟨_,rfl⟩
 obtain⟨dn,hdn⟩:∃ dn,data.length=dn:=⟨_,rfl⟩
 obtain⟨qn,hqn⟩:∃ qn,qs.length=qn:=⟨_,rfl⟩
 have HRN:=Fx hrn
 have HDN:=Fx hdn
 have HQN:=Fx hqn
 rw[hrn] at HC1 HR nR ⊢
 rw[hdn] at HT nD ⊢
 rw[hqn] at HQ nQ ⊢
 clear hrn hdn hqn
 go_enter func6,ntmps6
 go_wp2_with fail
 refine HC1.out.mono ?_
 rintro e w1 ⟨v1,rfl,hrel,hb1⟩
 have HR1:=Fx (cL.at hrel (by rw[HRN.out];omega) HRC.out)
 have HB1:=Fx hb1
 have HC2:=Fx (rk w1 _ data (HT.out.keep hb1) (by rw[HDN.out];omega) (fun t ht=>by have:=kZ ht;omega))
 clear hrel hb1
 go_wp2_with fail
 refine HC2.out.mono ?_
 rintro e w2 ⟨v2,rfl,htb,hb2⟩
 have HT2:=Fx (htb.at_ (by rw[HDN.out];omega) (fun t ht=>by have:=kZ ht;omega))
 have HB2:=Fx (dZ HB1.out hb2)
 have HR2:=Fx (HR1.out.keep hb2)
 have HC3:=Fx (rD w2 _ qs (HQ.out.keep (dZ HB1.out hb2)) (by rw[HQN.out];omega) HCQ.out)
 clear htb hb2 HR1 HB1 HC2
 go_wp2_with fail
 refine HC3.out.mono ?_
 rintro e w3 ⟨v3,rfl,hqr,hb3⟩
 have hb30:=dZ HB2.out hb3
 have HD3:=Fx (HDL.out w3 v1 v2 v3 hb30 (HR2.out.keep hb3) (HT2.out.keep hb3) (hqr.at_ (by rw[HQN.out];omega) HCQ.out))
 have HB3:=Fx hb30
 clear hqr hb3 hb30 HR2 HT2 HB2 HC3 HDL
 obtain⟨E,hE⟩:∃ E,hO rels data qs=E:=⟨_,rfl⟩
 obtain⟨LS,hLS⟩:∃ LS,(if hO rels data qs=0 then fV rels data qs else [])=LS:=⟨_,rfl⟩
 rw[hLS,hE] at HD3
 have HLL:Hid (LS.length<=8796093022208):=Fx (by
  have h1:=wu rels data qs
  have h2:=HRN.out
  have h3:=HQN.out
  have h4:rels.length * dy data<=1048576 * 1048576:=Nat.mul_le_mul (by omega) nT
  rw[<-hLS]
  by_cases h:hO rels data qs=0
  ·rw[if_pos h];omega
  ·rw[if_neg h];exact Fz)
 have HE:=Fx hE
 have HLS:=Fx hLS
 clear hE hLS
 go_wp2_with fail
 refine HD3.out.mono ?_
 rintro e w4 ⟨lv,rfl,hlv,hb4⟩
 have hls1:LS.length<=8796093022208:=HLL.out
 have hls:=aV.strs hlv hls1
 obtain⟨la,lc,rfl,hl1,hl2⟩:=hls.form
 have HL4:=Fx hls
 have HB4:=Fx (dZ HB3.out hb4)
 clear hlv hb4 HB3 HD3 hls
 obtain⟨N,hN⟩:∃ N,LS.length=N:=⟨_,rfl⟩
 rw[hN] at HL4 hls1 hl1 ⊢
 have HN:=Fx hN
 clear hN
 by_cases he:E=0
 case neg =>
  have hn0:N=0:=by
   rw[<-HN.out,<-HLS.out,HE.out,if_neg he];rfl
  have hq1:(E != 0)=true:=by simpa using he
  subst hn0
  have HA4:=Fx (HAWK.out w4 HB4.out)
  go_wp2_with fail
  refine HA4.out.mono ?_
  rintro e w5 ⟨rfl,hb5⟩
  have HB5:=Fx (dZ HB4.out hb5)
  clear hb5
  go_wp2_with fail
  go_ret
  exact⟨rfl,HB5.out⟩
 case pos =>
  subst he
  obtain⟨l,hdc⟩:=xW HE.out BT.out BQ.out
  have hls2:=HLS.out
  rw[if_pos HE.out] at hls2
  rw[hls2] at hdc
  have hlen:=hdc.len
  rw[HN.out,HRN.out,HQN.out] at hlen
  obtain⟨bl,hbl⟩:∃ bl,l.length=bl:=⟨_,rfl⟩
  rw[hbl] at hlen
  have HBL:=Fx hbl
  have HDC:=Fx hdc
  have hcmp:decide ((N:Int)<(rn:Int)+(qn:Int))=false:=by simp;omega
  clear hdc hbl hls2 htm
  go_wp2_with fail
  clear hcmp
  go_loopw [43,9] (fun i la9 wr=>∃ (k:Nat) (lb:List eP),k<=N/\i=.int .i64 k/\Hid (cU wr la9 lb)/\Hid (Bf rn l k lb)/\Hid (Below w4.heap.size w4 wr)) (fun i _ _=>N - (intOf i).toNat)
  case atStart=>exact⟨0,[],Fz,rfl,Fx ⟨[],aj.nil _ _,trivial⟩,Fx (.inl ⟨Fz,rfl⟩),Fx Fy⟩
  case round =>
   obtain⟨k,lb,hk,rfl,HLA,HPB,BW⟩:=hrel
   obtain⟨wo,rfl⟩:∃ wo:World,wo=wr:=⟨_,rfl⟩
   by_cases hlt:k<N
   case neg =>
    obtain rfl:k=N:=by omega
    have hdl:decide ((k:Int)<(k:Int))=false:=by simp
    have hbw:=dZ HB4.out BW.out
    have HA4:=Fx (HAWK.out wo hbw)
    have HBW:=Fx hbw
    clear hbw
    go_wp2_with fail
    refine HA4.out.mono ?_
    rintro e w5 ⟨rfl,hb5⟩
    have HB5:=Fx (dZ HBW.out hb5)
    clear hb5
    go_wp2_with fail
    go_ret
    exact⟨rfl,HB5.out⟩
   case pos =>
    obtain⟨s,c,hs,hlk⟩:=HDC.out.line (k:=k) (by rw[HN.out];exact hlt)
    obtain⟨b1,o1,c1,hv1,_,_,hlq,q0⟩:=(HL4.out.keep BW.out).get hs
    rw[HN.out] at hv1
    simp only[Value.slice.injEq,true_and] at hv1
    obtain⟨rfl,rfl⟩:=hv1
    have hdl:decide ((k:Int)<(N:Int))=true:=by simp;omega
    have hdk:decide ((k:Int)<0)=false:=by simp
    have hdn:decide ((N:Int)<=(k:Int))=false:=by simp;omega
    have hbw:=dZ HB4.out BW.out
    have HP:=Fx (HPA.out wo s c hbw hlk.1)
    have HBW:=Fx hbw
    have HLK:=Fx hlk
    have HSQ:=Fx hs
    have hsz:(⟨s.toArray⟩:ByteArray).size=s.length:=by simp [ByteArray.size]
    have hszl:=hlk.1.len
    clear hbw hlk hs hl1 hl2
    obtain⟨sb,hsb⟩:∃ sb,(⟨s.toArray⟩:ByteArray)=sb:=⟨_,rfl⟩
    rw[hsb] at q0 HP hsz
    have HSB:=Fx hsb
    clear hsb
    go_wp2_with fail
    refine HP.out.mono ?_
    rintro e w5 ⟨cells,rfl,hat,hb5⟩
    have hb45:=dZ BW.out hb5
    clear q0 HP
    obtain⟨cv,hv,av,bv,rv,hcells,a1,a2,a3,a4,a5⟩:=id hat
    obtain⟨i1,j1,rfl,_,_⟩:=a1.form
    obtain⟨i2,j2,rfl,_,_⟩:=a2.form
    obtain⟨i3,j3,rfl,_,_⟩:=a3.form
    obtain⟨i4,j4,rfl,_,_⟩:=a4.form
    obtain⟨i5,j5,rfl,_,_⟩:=a5.form
    simp only[List.length_map] at hcells a1 a5
    subst hcells
    have HAT:=Fx hat
    have HA:=Fx (And.intro a1 (And.intro a2 (And.intro a3 a4)))
    have HB5:=Fx hb45
    have HBO:=Fx hb5
    clear a1 a2 a3 a4 a5 hat hb5 hb45
    obtain⟨W5,hW5⟩:∃ W5,w5.alloc (.cells #[.int .i64 c.kind,.string ⟨c.rel.name.toArray⟩,.slice i1 c.rel.cols.length j1,.string ⟨c.q.name.toArray⟩,.slice i2 c.q.head.length j2,.slice i3 c.q.atoms.length j3,.slice i4 c.b.length j4,.string ⟨c.nm.toArray⟩,.int .i64 c.id,.int .i64 c.n,.slice i5 c.row.length j5] 61)=W5:=⟨_,rfl⟩
    have hq5:af W5 w5.heap.size 61 #[.int .i64 c.kind,.string ⟨c.rel.name.toArray⟩,.slice i1 c.rel.cols.length j1,.string ⟨c.q.name.toArray⟩,.slice i2 c.q.head.length j2,.slice i3 c.q.atoms.length j3,.slice i4 c.b.length j4,.string ⟨c.nm.toArray⟩,.int .i64 c.id,.int .i64 c.n,.slice i5 c.row.length j5]:=hW5 ▸ af.new _ _ _
    have hb55:Below w5.heap.size w5 W5:=hW5 ▸ ae Fy _
    have HAT5:=Fx (HAT.out.keep hb55)
    have hb5:=dZ HB5.out hb55
    have HT5:=Fx (HTX.out W5 _ s c (dZ HB4.out hb5) HAT5.out HLK.out.1)
    rw[HSB.out] at HT5
    have HW5:=Fx hW5
    have HQ5:=Fx hq5
    have HB55:=Fx hb5
    have HBX:=Fx hb55
    clear hW5 hq5 hb55 hb5 HAT HB5
    go_upto_region 11 with fail
    rw[HW5.out]
    have hq:=HQ5.out
    have k0:=hq.cell 0
    have k1:=hq.cell 1
    have k2:=hq.cell 2
    have k3:=hq.cell 3
    have k4:=hq.cell 4
    have k5:=hq.cell 5
    have k6:=hq.cell 6
    have k7:=hq.cell 7
    have k8:=hq.cell 8
    have k9:=hq.cell 9
    have k10:=hq.cell 10
    have kl:=hq.lt
    simp only[FF] at k0 k1 k2 k3 k4 k5 k6 k7 k8 k9 k10
    have hd1:decide (16384<(sb.size:Int))=false:=by simp;omega
    have hd2:decide (16384<sb.size)=false:=by simp;omega
    have hd3:¬ 16384<sb.size:=by omega
    clear hq
    obtain⟨g5,hg5⟩:∃ g5,w5.heap.size=g5:=⟨_,rfl⟩
    rw[hg5] at HQ5 k0 k1 k2 k3 k4 k5 k6 k7 k8 k9 k10 kl ⊢
    clear hg5
    go_wp2_with fail
    refine HT5.out.mono ?_
    rintro e w6 ⟨rfl,hb6⟩
    have HB6:=Fx (dZ HB55.out hb6)
    have HLA6:=Fx (((HLA.out.keep HBO.out).keep HBX.out).keep hb6)
    have HA6:=Fx (show aj w6 (.slice i1 c.rel.cols.length j1) 2 (c.rel.cols.map bd.cells)/\aI w6 (.slice i2 c.q.head.length j2) c.q.head/\aK w6 (.slice i3 c.q.atoms.length j3) c.q.atoms/\cU w6 (.slice i4 c.b.length j4) c.b from ⟨(HA.out.1.keep HBX.out).keep hb6,(HA.out.2.1.keep HBX.out).keep hb6,(HA.out.2.2.1.keep HBX.out).keep hb6,(HA.out.2.2.2.keep HBX.out).keep hb6⟩)
    have HQ6:=Fx (HQ5.out.below hb6 HQ5.out.lt)
    have HAT6:=Fx (HAT5.out.keep hb6)
    clear hb6 HT5 HW5 HAT5 HB55 HQ5 k0 k1 k2 k3 k4 k5 k6 k7 k8 k9 k10 kl hd1 hd2 hd3 hdk hdn hdl
    go_upto_region 18 with fail
    have hlk2:=HLK.out.2
    rw[HRN.out,HBL.out] at hlk2
    rcases hlk2 with ⟨r,hr,hc⟩ | ⟨j,b,hj,hb,hc,hsl,hne,hrw⟩ | ⟨j,qy,hj,hq,hc⟩
    ·have hkn:k<rn:=by rw[<-HRN.out];exact (FE hr).1
     have hdl:decide ((k:Int)<(rn:Int))=true:=by simp;omega
     have HRR:=Fx hr
     have HCC:=Fx hc
     clear hr hc
     go_upto_region 19 with fail
     have hcc:=HCC.out
     have hq6:=HQ6.out
     have ha6:=HA6.out.1
     have hbw:=dZ HB4.out HB6.out
     obtain⟨b2,o2,c2,cv2,hv2,_,_,hl2,q0,q1,hcols,_⟩:=(HR.out.keep hbw).get HRR.out
     rw[HRN.out] at hv2
     simp only[Value.slice.injEq,true_and] at hv2
     obtain⟨rfl,rfl⟩:=hv2
     obtain⟨za,zc,rfl,_,_⟩:=hcols.form
     have hsm:=fun W (hW:Below w6.heap.size w6 W)=>sy W ⟨r.name.toArray⟩ (.slice i1 c.rel.cols.length j1) _ r.cols ((show aj w6 (.slice i1 c.rel.cols.length j1) 2 (r.cols.map bd.cells) from (show c.rel.cols=r.cols by rw[hcc];rfl) ▸ ha6).keep hW) (hcols.keep hW)
     have x0:w6.cell? ⟨g5,0,none⟩=some (.int .i64 1):=(hq6.cell 0).trans (by rw[hcc];rfl)
     have x1:w6.cell? ⟨g5,1,none⟩=some (.string ⟨r.name.toArray⟩):=(hq6.cell 1).trans (by rw[hcc];rfl)
     have x2:w6.cell? ⟨g5,2,none⟩=some (.slice i1 c.rel.cols.length j1):=(hq6.cell 2).trans rfl
     have xl:=hq6.lt
     obtain⟨rcn,hrcn⟩:∃ n,c.rel.cols.length=n:=⟨_,rfl⟩
     obtain⟨zn,hzn⟩:∃ n,r.cols.length=n:=⟨_,rfl⟩
     rw[hrcn] at hsm x2
     rw[hzn] at hsm q1
     have hSF:w6.cell? ⟨g5,0,none⟩=some (.int .i64 1)/\w6.cell? ⟨g5,1,none⟩=some (.string ⟨r.name.toArray⟩)/\w6.cell? ⟨g5,2,none⟩=some (.slice i1 rcn j1)/\w6.cell? ⟨b2,o2+k * 2,none⟩=some (.string ⟨r.name.toArray⟩)/\w6.cell? ⟨b2,o2+k * 2+1,none⟩=some (.slice za zn zc)/\g5<w6.heap.size/\b2<w6.heap.size:=⟨x0,x1,x2,q0,q1,xl,hl2⟩
     have HSF:=Fx hSF
     have HSM:=Fx hsm
     have hdk0:decide ((k:Int)<0)=false:=by simp
     have hdk1:decide ((rn:Int)<=(k:Int))=false:=by simp;omega
     clear hcc hq6 ha6 hbw hcols hsm x0 x1 x2 xl hrcn hzn hSF q0 q1
     obtain⟨SS,hSS⟩:∃ SS:World->Prop,SS=fun W=>W.cell? ⟨g5,0,none⟩=some (.int .i64 1)/\W.cell? ⟨g5,1,none⟩=some (.string ⟨r.name.toArray⟩)/\W.cell? ⟨g5,2,none⟩=some (.slice i1 rcn j1)/\W.cell? ⟨b2,o2+k * 2,none⟩=some (.string ⟨r.name.toArray⟩)/\W.cell? ⟨b2,o2+k * 2+1,none⟩=some (.slice za zn zc)/\g5<W.heap.size/\b2<W.heap.size:=⟨_,rfl⟩
     have HSC:=Fx (fun W (q:SS W)=>(by rw[hSS] at q;exact q:W.cell? ⟨g5,0,none⟩=some (.int .i64 1)/\W.cell? ⟨g5,1,none⟩=some (.string ⟨r.name.toArray⟩)/\W.cell? ⟨g5,2,none⟩=some (.slice i1 rcn j1)/\W.cell? ⟨b2,o2+k * 2,none⟩=some (.string ⟨r.name.toArray⟩)/\W.cell? ⟨b2,o2+k * 2+1,none⟩=some (.slice za zn zc)/\g5<W.heap.size/\b2<W.heap.size))
     have HSI:=Fx (fun W (q:W.cell? ⟨g5,0,none⟩=some (.int .i64 1)/\W.cell? ⟨g5,1,none⟩=some (.string ⟨r.name.toArray⟩)/\W.cell? ⟨g5,2,none⟩=some (.slice i1 rcn j1)/\W.cell? ⟨b2,o2+k * 2,none⟩=some (.string ⟨r.name.toArray⟩)/\W.cell? ⟨b2,o2+k * 2+1,none⟩=some (.slice za zn zc)/\g5<W.heap.size/\b2<W.heap.size)=>(by rw[hSS];exact q:SS W))
     clear hSS
     have HSS:SS w6.drew:=HSI.out _ (HSF.out)
     refine wp_region_held_drew (by kernel_rfl) HSS (fun _=>?_)
     refine Held.on 0 (fun K hK=>?_)
     go_simp
     refine hK.out _ _ HSS ?_
     clear hK K
     try simp only[FG]
     refine Held.on 1 (fun K hK=>?_)
     have q:=HSC.out _ HSS
     repeat (obtain⟨_,q⟩:=q)
     go_simp
     refine hK.out _ _ HSS ?_
     clear hK K
     clear q
     try simp only[FG]
     refine Held.on 2 (fun K hK=>?_)
     go_simp
     refine hK.out _ _ HSS ?_
     clear hK K
     try simp only[FG]
     refine Held.tk 3 132 HSS ?_
     refine Held.tk 4 133 HSS ?_
     refine Held.tk 5 134 HSS ?_
     refine Held.tk 6 135 HSS ?_
     refine Held.on 7 (fun K hK=>?_)
     go_simp
     refine hK.out _ _ HSS ?_
     clear hK K
     try simp only[FG]
     refine Held.on 8 (fun K hK=>?_)
     go_simp
     refine hK.out _ _ HSS ?_
     clear hK K
     try simp only[FG]
     refine Held.tk 9 138 HSS ?_
     refine Held.on 10 (fun K hK=>?_)
     go_simp
     refine (HSM.out _ (ay Fy)).mono ?_
     rintro e w7 ⟨rfl,hb7⟩
     have hb8:Below w6.heap.size w6 w7:=dZ (ay Fy) hb7
     have HB7:=Fx (dZ HB6.out hb8)
     have HB67:=Fx hb8
     clear HSS
     have HSS:=HSI.out w7 ⟨(hb8.cell (p:=⟨g5,0,none⟩) HSF.out.2.2.2.2.2.1).trans HSF.out.1,(hb8.cell (p:=⟨g5,1,none⟩) HSF.out.2.2.2.2.2.1).trans HSF.out.2.1,(hb8.cell (p:=⟨g5,2,none⟩) HSF.out.2.2.2.2.2.1).trans HSF.out.2.2.1,(hb8.cell (p:=⟨b2,o2+k * 2,none⟩) HSF.out.2.2.2.2.2.2).trans HSF.out.2.2.2.1,(hb8.cell (p:=⟨b2,o2+k * 2+1,none⟩) HSF.out.2.2.2.2.2.2).trans HSF.out.2.2.2.2.1,Nat.lt_of_lt_of_le HSF.out.2.2.2.2.2.1 hb8.size,Nat.lt_of_lt_of_le HSF.out.2.2.2.2.2.2 hb8.size⟩
     refine hK.out _ _ HSS ?_
     clear hK K hb7 hb8 HSM
     try simp only[FG]
     refine Held.tk 11 140 HSS ?_
     refine Held.tk 12 141 HSS ?_
     refine wpAnyH_done (by kernel_rfl) ?_ _
     clear HSS HSC HSI
     go_wp2_with fail
     go_roundw
     case rel=>exact⟨k+1,lb,by omega,by go_num,Fx (HLA6.out.keep HB67.out),Fx (.inl ⟨by omega,HPB.out.nilK hkn⟩),HB7⟩
     case measure=>simp [intOf];omega
    ·have hjb:j<bl:=by rw[<-HBL.out];exact (FE hb).1
     have hdl:decide ((k:Int)<(rn:Int))=false:=by simp;omega
     have hdv:decide (((rn+bl+qn:Nat):Int) - (qn:Int)<=(k:Int))=false:=by simp;omega
     have hkn:¬ k<rn:=by omega
     have hkv:¬ (rn:Int)+(bl:Int)<=(k:Int):=by omega
     have HBB:=Fx hb
     have HCC:=Fx hc
     have HSL:=Fx hsl
     have HNE:=Fx hne
     have HRW:=Fx hrw
     have HJ:=Fx hj
     clear hb hc hsl hne hrw hj
     go_upto_region 13 with fail
     have hcc:=HCC.out
     have hq6:=HQ6.out
     have hcb:c.b=b.chgs:=by rw[hcc];rfl
     obtain⟨r0,rs,hch⟩:∃ r0 rs,b.ch=r0::rs:=by
      cases hc:b.ch with
      | nil=>exact absurd hc HNE.out
      | cons r rs=>exact⟨r,rs,rfl⟩
     have hcb0:c.b[0]? = some ⟨true,b.rel,r0⟩:=by rw[hcb];unfold jT.chgs;rw[hch];rfl
     have ha6:=HA6.out.2.2.2
     obtain⟨e2,f2,d2,rv0,hv2,_,_,hl2,_,z1,z2,hrow,_⟩:=ha6.get hcb0
     simp only[Value.slice.injEq,true_and] at hv2
     obtain⟨rfl,rfl⟩:=hv2
     simp only[Nat.zero_mul,Nat.add_zero] at z1 z2
     have x0:w6.cell? ⟨g5,0,none⟩=some (.int .i64 4):=(hq6.cell 0).trans (by rw[hcc];rfl)
     have x6:w6.cell? ⟨g5,6,none⟩=some (.slice (some ⟨e2,f2,none⟩) c.b.length j4):=(hq6.cell 6).trans rfl
     have xl:=hq6.lt
     have hbp:1<=c.b.length:=(FE hcb0).1
     obtain⟨bn,hbn⟩:∃ n,c.b.length=n:=⟨_,rfl⟩
     rw[hbn] at x6 ha6 hbp
     have HA9:=Fx ha6
     have HR0:=Fx hrow
     have HZ:=Fx (show w6.cell? ⟨g5,6,none⟩=some (.slice (some ⟨e2,f2,none⟩) bn j4)/\w6.cell? ⟨e2,f2+1,none⟩=some (.string ⟨b.rel.toArray⟩)/\w6.cell? ⟨e2,f2+2,none⟩=some rv0/\g5<w6.heap.size/\e2<w6.heap.size from ⟨x6,z1,z2,xl,hl2⟩)
     have HCH:=Fx hch
     have HCB:=Fx hcb
     have hb0:((bn:Int) == 0)=false:=by simp;omega
     clear hcc hq6 hcb hch hcb0 ha6 hl2 z1 z2 hrow hbn
     go_upto_region 15 with fail
     clear x0 x6 xl hb0
     obtain⟨sB,hsB⟩:∃ sB,(⟨b.rel.toArray⟩:ByteArray)=sB:=⟨_,rfl⟩
     have hZ:=HZ.out
     rw[hsB] at hZ
     have HZ1:=Fx hZ
     have HSB2:=Fx hsB
     clear hZ hsB HZ
     have hb1:decide ((bn:Int)<=0)=false:=by simp;omega
     have hb2:¬ bn=0:=by omega
     have hb3:0<bn:=by omega
     have hb4:decide (0<(bn:Int))=true:=by simp;omega
     have hlp:(lb=[]/\j=0)∨∃ a,0<j/\l[j - 1]? = some a/\lb=a.chgs:=by
      have hj:=HJ.out
      rcases HPB.out with ⟨h1,h2⟩ | ⟨j1,a,h1,h2,h3⟩ | h
      ·exact .inl ⟨h2,by omega⟩
      ·obtain rfl:j=j1+1:=by omega
       exact .inr ⟨a,by omega,h2,h3⟩
      ·have:=HBL.out
       omega
     obtain⟨la1,lc1,rfl,_,_⟩:=HLA6.out.form
     rcases hlp with ⟨hlb,hj0⟩ | ⟨a,hj0,ha,hlb⟩
     ·obtain⟨ln,hlln⟩:∃ n,lb.length=n:=⟨_,rfl⟩
      have hl0:decide (0<(ln:Int))=false:=by rw[<-hlln,hlb];rfl
      have hl1:¬ 0<ln:=by rw[<-hlln,hlb];decide
      rw[hlln]
      clear hlln hlb hj0
      obtain⟨SS,hSS⟩:∃ SS:World->Prop,SS=fun W=>W.cell? ⟨g5,6,none⟩=some (.slice (some ⟨e2,f2,none⟩) bn j4)/\W.cell? ⟨e2,f2+1,none⟩=some (.string sB)/\W.cell? ⟨e2,f2+2,none⟩=some rv0/\g5<W.heap.size/\e2<W.heap.size:=⟨_,rfl⟩
      have HSC:=Fx (fun W (q:SS W)=>(by rw[hSS] at q;exact q:W.cell? ⟨g5,6,none⟩=some (.slice (some ⟨e2,f2,none⟩) bn j4)/\W.cell? ⟨e2,f2+1,none⟩=some (.string sB)/\W.cell? ⟨e2,f2+2,none⟩=some rv0/\g5<W.heap.size/\e2<W.heap.size))
      have HSI:=Fx (fun W (q:W.cell? ⟨g5,6,none⟩=some (.slice (some ⟨e2,f2,none⟩) bn j4)/\W.cell? ⟨e2,f2+1,none⟩=some (.string sB)/\W.cell? ⟨e2,f2+2,none⟩=some rv0/\g5<W.heap.size/\e2<W.heap.size)=>(by rw[hSS];exact q:SS W))
      clear hSS
      have HSS:SS w6.drew:=HSI.out _ (HZ1.out)
      refine wp_region_held_drew (by kernel_rfl) HSS (fun _=>?_)
      refine Held.o1 0 76 HSS ?_
      refine Held.o1 1 77 HSS ?_
      refine Held.o1 2 78 HSS ?_
      refine Held.o1 3 79 HSS ?_
      refine Held.sks 10 [(4,80),(5,81),(6,82),(7,83),(8,84),(9,85),(10,86),(11,87),(12,88),(13,89)] HSS ?_
      refine Held.o1 14 90 HSS ?_
      refine Held.o1 15 91 HSS ?_
      refine Held.sks 3 [(16,92),(17,93),(18,94)] HSS ?_
      refine Held.o1 19 95 HSS ?_
      refine Held.o1 20 96 HSS ?_
      refine Held.sks 24 [(21,97),(22,98),(23,99),(24,100),(25,101),(26,102),(27,103),(28,104),(29,105),(30,106),(31,107),(32,108),(37,113),(38,114),(39,115),(40,116),(41,117),(42,118),(33,109),(34,110),(35,111),(36,112),(43,119),(44,120)] HSS ?_
      refine Held.o1 45 121 HSS ?_
      refine wpAnyH_done (by kernel_rfl) ?_ _
      clear HSS HSC HSI
      go_upto_region 17 with fail
      have x6:=HZ1.out.1
      have xl:=HZ1.out.2.2.2.1
      go_wp2_with fail
      go_roundw
      case rel=>exact⟨k+1,c.b,by omega,by go_num,Fx (HA9.out.keep (ay Fy)),Fx (.inr (.inl ⟨j,b,by rw[HJ.out],HBB.out,HCB.out⟩)),Fx (dZ HB6.out (ay Fy))⟩
      case measure=>simp [intOf];omega
     ·obtain⟨r1,rs1,hch1⟩:∃ r1 rs1,a.ch=r1::rs1:=by
       cases hc:a.ch with
       | nil=>exact absurd hc (HDC.out.bat (j - 1) a ha).2.2.1
       | cons r rs=>exact⟨r,rs,rfl⟩
      have hlb0:lb[0]? = some ⟨true,a.rel,r1⟩:=by rw[hlb];unfold jT.chgs;rw[hch1];rfl
      have hlp:1<=lb.length:=(FE hlb0).1
      obtain⟨e3,f3,d3,rv1,hv3,_,_,hl3,_,u1,_,_,_⟩:=HLA6.out.get hlb0
      simp only[Value.slice.injEq,true_and] at hv3
      obtain⟨rfl,rfl⟩:=hv3
      simp only[Nat.zero_mul,Nat.add_zero] at u1
      obtain⟨sA,hsA⟩:∃ sA,(⟨a.rel.toArray⟩:ByteArray)=sA:=⟨_,rfl⟩
      rw[hsA] at u1
      have hln:lb.length=a.ch.length:=by rw[hlb];unfold jT.chgs;rw[List.length_map]
      have hfull:a.rel=b.rel->tj b.rel a.ch b.ch:=HDC.out.adj (j - 1) a b ha (by rw[Nat.sub_add_cancel hj0];exact HBB.out)
      have hprev:LS[k - 1]? = some a.line:=by
       have:=(HDC.out.bat (j - 1) a ha).1
       rw[show k - 1=rels.length+(j - 1) by rw[HJ.out,HRN.out];omega]
       exact this
      obtain⟨ln,hlln⟩:∃ n,lb.length=n:=⟨_,rfl⟩
      have HU:=Fx (show w6.cell? ⟨e3,f3+1,none⟩=some (.string sA)/\e3<w6.heap.size from ⟨u1,hl3⟩)
      have HFU:=Fx hfull
      have HPV:=Fx hprev
      have HPL:=Fx (HDC.out.bat (j - 1) a ha).2.1.len
      have HLB:=Fx hlb
      have HSA:=Fx hsA
      rw[hlln] at hln hlp ⊢
      have HLN:=Fx hln
      have hl1:decide (0<(ln:Int))=true:=by simp;omega
      have hl2:decide ((ln:Int)<=0)=false:=by simp;omega
      have hl3:¬ ln=0:=by omega
      have hl4:0<ln:=by omega
      clear hch1 hlb0 u1 hsA hfull hprev hlb ha hlln hln
      by_cases hAB:a.rel=b.rel
      case neg =>
       have hne:(sA.toList == sB.toList)=false:=by rw[<-HSA.out,<-HSB2.out,zX];exact decide_eq_false hAB
       obtain⟨SS,hSS⟩:∃ SS:World->Prop,SS=fun W=>W.cell? ⟨g5,6,none⟩=some (.slice (some ⟨e2,f2,none⟩) bn j4)/\W.cell? ⟨e2,f2+1,none⟩=some (.string sB)/\W.cell? ⟨e2,f2+2,none⟩=some rv0/\g5<W.heap.size/\e2<W.heap.size/\W.cell? ⟨e3,f3+1,none⟩=some (.string sA)/\e3<W.heap.size:=⟨_,rfl⟩
       have HSC:=Fx (fun W (q:SS W)=>(by rw[hSS] at q;exact q:W.cell? ⟨g5,6,none⟩=some (.slice (some ⟨e2,f2,none⟩) bn j4)/\W.cell? ⟨e2,f2+1,none⟩=some (.string sB)/\W.cell? ⟨e2,f2+2,none⟩=some rv0/\g5<W.heap.size/\e2<W.heap.size/\W.cell? ⟨e3,f3+1,none⟩=some (.string sA)/\e3<W.heap.size))
       have HSI:=Fx (fun W (q:W.cell? ⟨g5,6,none⟩=some (.slice (some ⟨e2,f2,none⟩) bn j4)/\W.cell? ⟨e2,f2+1,none⟩=some (.string sB)/\W.cell? ⟨e2,f2+2,none⟩=some rv0/\g5<W.heap.size/\e2<W.heap.size/\W.cell? ⟨e3,f3+1,none⟩=some (.string sA)/\e3<W.heap.size)=>(by rw[hSS];exact q:SS W))
       clear hSS
       have HSS:SS w6.drew:=HSI.out _ (⟨HZ1.out.1,HZ1.out.2.1,HZ1.out.2.2.1,HZ1.out.2.2.2.1,HZ1.out.2.2.2.2,HU.out.1,HU.out.2⟩)
       refine wp_region_held_drew (by kernel_rfl) HSS (fun _=>?_)
       refine Held.o1 0 76 HSS ?_
       refine Held.o1 1 77 HSS ?_
       refine Held.o1 2 78 HSS ?_
       refine Held.o1 3 79 HSS ?_
       refine Held.tk 4 80 HSS ?_
       refine Held.tk 5 81 HSS ?_
       refine Held.tk 6 82 HSS ?_
       refine Held.tk 7 83 HSS ?_
       refine Held.o1 8 84 HSS ?_
       refine Held.o1 9 85 HSS ?_
       refine Held.o1 10 86 HSS ?_
       refine Held.o1 11 87 HSS ?_
       refine Held.o1 12 88 HSS ?_
       refine Held.o1 13 89 HSS ?_
       refine Held.o1 14 90 HSS ?_
       refine Held.o1 15 91 HSS ?_
       refine Held.sks 3 [(16,92),(17,93),(18,94)] HSS ?_
       refine Held.o1 19 95 HSS ?_
       refine Held.o1 20 96 HSS ?_
       refine Held.sks 24 [(21,97),(22,98),(23,99),(24,100),(25,101),(26,102),(27,103),(28,104),(29,105),(30,106),(31,107),(32,108),(37,113),(38,114),(39,115),(40,116),(41,117),(42,118),(33,109),(34,110),(35,111),(36,112),(43,119),(44,120)] HSS ?_
       refine Held.o1 45 121 HSS ?_
       refine wpAnyH_done (by kernel_rfl) ?_ _
       clear HSS HSC HSI
       go_upto_region 17 with fail
       have x6:=HZ1.out.1
       have xl:=HZ1.out.2.2.2.1
       go_wp2_with fail
       go_roundw
       case rel=>exact⟨k+1,c.b,by omega,by go_num,Fx (HA9.out.keep (ay Fy)),Fx (.inr (.inl ⟨j,b,by rw[HJ.out],HBB.out,HCB.out⟩)),Fx (dZ HB6.out (ay Fy))⟩
       case measure=>simp [intOf];omega
      case pos =>
       have heq:(sA.toList == sB.toList)=true:=by rw[<-HSA.out,<-HSB2.out,zX];exact decide_eq_true hAB
       have hfu:=HFU.out hAB
       by_cases h256:ln<256
       case neg =>
        have hd256:decide ((ln:Int)<256)=false:=by simp;omega
        have hd257:decide (ln<256)=false:=by simp;omega
        clear hfu
        obtain⟨SS,hSS⟩:∃ SS:World->Prop,SS=fun W=>W.cell? ⟨g5,6,none⟩=some (.slice (some ⟨e2,f2,none⟩) bn j4)/\W.cell? ⟨e2,f2+1,none⟩=some (.string sB)/\W.cell? ⟨e2,f2+2,none⟩=some rv0/\g5<W.heap.size/\e2<W.heap.size/\W.cell? ⟨e3,f3+1,none⟩=some (.string sA)/\e3<W.heap.size:=⟨_,rfl⟩
        have HSC:=Fx (fun W (q:SS W)=>(by rw[hSS] at q;exact q:W.cell? ⟨g5,6,none⟩=some (.slice (some ⟨e2,f2,none⟩) bn j4)/\W.cell? ⟨e2,f2+1,none⟩=some (.string sB)/\W.cell? ⟨e2,f2+2,none⟩=some rv0/\g5<W.heap.size/\e2<W.heap.size/\W.cell? ⟨e3,f3+1,none⟩=some (.string sA)/\e3<W.heap.size))
        have HSI:=Fx (fun W (q:W.cell? ⟨g5,6,none⟩=some (.slice (some ⟨e2,f2,none⟩) bn j4)/\W.cell? ⟨e2,f2+1,none⟩=some (.string sB)/\W.cell? ⟨e2,f2+2,none⟩=some rv0/\g5<W.heap.size/\e2<W.heap.size/\W.cell? ⟨e3,f3+1,none⟩=some (.string sA)/\e3<W.heap.size)=>(by rw[hSS];exact q:SS W))
        clear hSS
        have HSS:SS w6.drew:=HSI.out _ (⟨HZ1.out.1,HZ1.out.2.1,HZ1.out.2.2.1,HZ1.out.2.2.2.1,HZ1.out.2.2.2.2,HU.out.1,HU.out.2⟩)
        refine wp_region_held_drew (by kernel_rfl) HSS (fun _=>?_)
        refine Held.o1 0 76 HSS ?_
        refine Held.o1 1 77 HSS ?_
        refine Held.o1 2 78 HSS ?_
        refine Held.o1 3 79 HSS ?_
        refine Held.tk 4 80 HSS ?_
        refine Held.tk 5 81 HSS ?_
        refine Held.tk 6 82 HSS ?_
        refine Held.tk 7 83 HSS ?_
        refine Held.o1 8 84 HSS ?_
        refine Held.o1 9 85 HSS ?_
        refine Held.o1 10 86 HSS ?_
        refine Held.o1 11 87 HSS ?_
        refine Held.o1 12 88 HSS ?_
        refine Held.o1 13 89 HSS ?_
        refine Held.o1 14 90 HSS ?_
        refine Held.o1 15 91 HSS ?_
        refine Held.o1 16 92 HSS ?_
        refine Held.o1 17 93 HSS ?_
        refine Held.o1 18 94 HSS ?_
        refine Held.o1 19 95 HSS ?_
        refine Held.o1 20 96 HSS ?_
        refine Held.sks 24 [(21,97),(22,98),(23,99),(24,100),(25,101),(26,102),(27,103),(28,104),(29,105),(30,106),(31,107),(32,108),(37,113),(38,114),(39,115),(40,116),(41,117),(42,118),(33,109),(34,110),(35,111),(36,112),(43,119),(44,120)] HSS ?_
        refine Held.o1 45 121 HSS ?_
        refine wpAnyH_done (by kernel_rfl) ?_ _
        clear HSS HSC HSI
        go_upto_region 17 with fail
        have x6:=HZ1.out.1
        have xl:=HZ1.out.2.2.2.1
        go_wp2_with fail
        go_roundw
        case rel=>exact⟨k+1,c.b,by omega,by go_num,Fx (HA9.out.keep (ay Fy)),Fx (.inr (.inl ⟨j,b,by rw[HJ.out],HBB.out,HCB.out⟩)),Fx (dZ HB6.out (ay Fy))⟩
        case measure=>simp [intOf];omega
       case pos =>
        have hd256:decide ((ln:Int)<256)=true:=by simp;omega
        have hd257:decide (ln<256)=true:=by simp;omega
        have hlong:16384<a.line.length+2+(cz r0).length+1+b.rel.length/\a.line.length<=16384/\(cz r0).length<=7802/\b.rel.length<=16384:=by
         have hrw:=HRW.out r0 (by rw[HCH.out];exact List.mem_cons_self)
         have hlen:=(HDC.out.bat j b HBB.out).2.1.len
         rcases hfu with h | ⟨r,h1,h2⟩
         ·exact absurd (HLN.out.trans h) (by omega)
         ·rw[HCH.out] at h1
          obtain rfl:r0=r:=by simpa using h1
          have hg:bi b.rel r0=43::(b.rel++cz r0):=by
           unfold bi bW
           rw[if_pos hrw.1]
          rw[hg,List.length_cons,List.length_append] at h2
          refine⟨?_,HPL.out,(gb hrw.1 hrw.2).2,?_⟩
          rotate_left
          ·unfold jT.line cI at hlen
           rw[HCH.out,List.map_cons,Lib.join_cons,hg] at hlen
           simp only[List.length_append,List.length_cons] at hlen
           omega
          show 16384<(cI a.rel a.ch).length+_+_+_+_
          rw[hAB]
          omega
        obtain⟨b9,o9,c9,hv9,_,_,hl9,q9⟩:=(HL4.out.keep HB6.out).get HPV.out
        rw[HN.out] at hv9
        simp only[Value.slice.injEq,true_and,Option.some.injEq,Addr.mk.injEq,and_true] at hv9
        obtain⟨⟨rfl,rfl⟩,rfl⟩:=hv9
        have hsh:=fun W (hW:Below w6.heap.size w6 W)=>mj W rv0 r0 (HR0.out.keep hW) (HRW.out r0 (by rw[HCH.out];exact List.mem_cons_self)).1 (HRW.out r0 (by rw[HCH.out];exact List.mem_cons_self)).2
        obtain⟨sP,hsP⟩:∃ s,(⟨a.line.toArray⟩:ByteArray)=s:=⟨_,rfl⟩
        obtain⟨sR,hsR⟩:∃ s,(⟨(cz r0).toArray⟩:ByteArray)=s:=⟨_,rfl⟩
        have hz1:sP.size=a.line.length:=by rw[<-hsP];simp [ByteArray.size]
        have hz2:sR.size=(cz r0).length:=by rw[<-hsR];simp [ByteArray.size]
        have hz3:sB.size=b.rel.length:=by rw[<-HSB2.out];simp [ByteArray.size]
        rw[hsP] at q9
        rw[hsR] at hsh
        rw[<-hz1,<-hz2,<-hz3] at hlong
        obtain⟨g1,g2,g3,g4⟩:=hlong
        obtain⟨kk,hkk⟩:∃ n,k - 1=n:=⟨_,rfl⟩
        rw[hkk] at q9
        have hkj:=HJ.out
        have hix:IntKind.i64.wrap ((k:Int) - 1)=(kk:Int):=by rw[IntKind.wrap_i64]<;>omega
        have hk0:decide ((kk:Int)<0)=false:=by simp
        have hk1:decide ((N:Int)<=(kk:Int))=false:=by simp;omega
        have hk2:(kk:Int)<(rn:Int)+(bl:Int)+(qn:Int):=by omega
        have hw1:IntKind.i64.wrap ((sP.size:Int)+2)=(sP.size:Int)+2:=by rw[IntKind.wrap_i64]<;>omega
        have hw2:IntKind.i64.wrap ((sP.size:Int)+2+(sR.size:Int))=(sP.size:Int)+2+(sR.size:Int):=by rw[IntKind.wrap_i64]<;>omega
        have hw3:IntKind.i64.wrap ((sP.size:Int)+2+(sR.size:Int)+1)=(sP.size:Int)+2+(sR.size:Int)+1:=by rw[IntKind.wrap_i64]<;>omega
        have hw4:IntKind.i64.wrap ((sP.size:Int)+2+(sR.size:Int)+1+(sB.size:Int))=(sP.size:Int)+2+(sR.size:Int)+1+(sB.size:Int):=by rw[IntKind.wrap_i64]<;>omega
        have hcm:decide ((sP.size:Int)+2+(sR.size:Int)+1+(sB.size:Int)<=16384)=false:=by simp;omega
        have HSM:=Fx hsh
        have HQ9:=Fx (And.intro q9 hl9)
        clear h256 hfu q9 hl9 hsh hsP hsR hz1 hz2 hz3 g1 g2 g3 g4 hkk hkj
        obtain⟨SS,hSS⟩:∃ SS:World->Prop,SS=fun W=>W.cell? ⟨g5,6,none⟩=some (.slice (some ⟨e2,f2,none⟩) bn j4)/\W.cell? ⟨e2,f2+1,none⟩=some (.string sB)/\W.cell? ⟨e2,f2+2,none⟩=some (rv0)/\W.cell? ⟨e3,f3+1,none⟩=some (.string sA)/\W.cell? ⟨b1,o1+kk,none⟩=some (.string sP)/\g5<W.heap.size/\e2<W.heap.size/\e3<W.heap.size/\b1<W.heap.size:=⟨_,rfl⟩
        have HSC:=Fx (fun W (q:SS W)=>(by rw[hSS] at q;exact q:W.cell? ⟨g5,6,none⟩=some (.slice (some ⟨e2,f2,none⟩) bn j4)/\W.cell? ⟨e2,f2+1,none⟩=some (.string sB)/\W.cell? ⟨e2,f2+2,none⟩=some (rv0)/\W.cell? ⟨e3,f3+1,none⟩=some (.string sA)/\W.cell? ⟨b1,o1+kk,none⟩=some (.string sP)/\g5<W.heap.size/\e2<W.heap.size/\e3<W.heap.size/\b1<W.heap.size))
        have HSI:=Fx (fun W (q:W.cell? ⟨g5,6,none⟩=some (.slice (some ⟨e2,f2,none⟩) bn j4)/\W.cell? ⟨e2,f2+1,none⟩=some (.string sB)/\W.cell? ⟨e2,f2+2,none⟩=some (rv0)/\W.cell? ⟨e3,f3+1,none⟩=some (.string sA)/\W.cell? ⟨b1,o1+kk,none⟩=some (.string sP)/\g5<W.heap.size/\e2<W.heap.size/\e3<W.heap.size/\b1<W.heap.size)=>(by rw[hSS];exact q:SS W))
        clear hSS
        have HSS:SS w6.drew:=HSI.out _ (⟨HZ1.out.1,HZ1.out.2.1,HZ1.out.2.2.1,HU.out.1,HQ9.out.1,HZ1.out.2.2.2.1,HZ1.out.2.2.2.2,HU.out.2,HQ9.out.2⟩)
        refine wp_region_held_drew (by kernel_rfl) HSS (fun _=>?_)
        refine Held.o1 0 76 HSS ?_
        refine Held.o1 1 77 HSS ?_
        refine Held.o1 2 78 HSS ?_
        refine Held.o1 3 79 HSS ?_
        refine Held.tk 4 80 HSS ?_
        refine Held.tk 5 81 HSS ?_
        refine Held.tk 6 82 HSS ?_
        refine Held.tk 7 83 HSS ?_
        refine Held.o1 8 84 HSS ?_
        refine Held.o1 9 85 HSS ?_
        refine Held.o1 10 86 HSS ?_
        refine Held.o1 11 87 HSS ?_
        refine Held.o1 12 88 HSS ?_
        refine Held.o1 13 89 HSS ?_
        refine Held.o1 14 90 HSS ?_
        refine Held.o1 15 91 HSS ?_
        refine Held.o1 16 92 HSS ?_
        refine Held.o1 17 93 HSS ?_
        refine Held.o1 18 94 HSS ?_
        refine Held.o1 19 95 HSS ?_
        refine Held.o1 20 96 HSS ?_
        refine Held.tk 21 97 HSS ?_
        refine Held.tk 22 98 HSS ?_
        refine Held.tk 23 99 HSS ?_
        refine Held.tk 24 100 HSS ?_
        refine Held.tk 25 101 HSS ?_
        refine Held.tk 26 102 HSS ?_
        refine Held.tk 27 103 HSS ?_
        refine Held.tk 28 104 HSS ?_
        refine Held.tk 29 105 HSS ?_
        refine Held.tk 30 106 HSS ?_
        refine Held.tk 31 107 HSS ?_
        refine Held.tk 32 108 HSS ?_
        refine Held.tk 37 113 HSS ?_
        refine Held.tk 38 114 HSS ?_
        refine Held.tk 39 115 HSS ?_
        refine Held.tk 40 116 HSS ?_
        refine Held.tk 41 117 HSS ?_
        refine Held.tk 42 118 HSS ?_
        refine Held.on 33 (fun K hK=>?_)
        go_simp
        refine (HSM.out _ (ay Fy)).mono ?_
        rintro e w7 ⟨rfl,hb7⟩
        have hb8:Below w6.heap.size w6 w7:=dZ (ay Fy) hb7
        obtain⟨t1,t2,t3,t4,t5,t6,t7,t8,t9⟩:=HSC.out _ HSS
        clear HSS
        have HSS:=HSI.out w7 ⟨(hb7.cell (p:=⟨g5,6,none⟩) t6).trans t1,(hb7.cell (p:=⟨e2,f2+1,none⟩) t7).trans t2,(hb7.cell (p:=⟨e2,f2+2,none⟩) t7).trans t3,(hb7.cell (p:=⟨e3,f3+1,none⟩) t8).trans t4,(hb7.cell (p:=⟨b1,o1+kk,none⟩) t9).trans t5,Nat.lt_of_lt_of_le t6 hb7.size,Nat.lt_of_lt_of_le t7 hb7.size,Nat.lt_of_lt_of_le t8 hb7.size,Nat.lt_of_lt_of_le t9 hb7.size⟩
        have HB7:=Fx (dZ HB6.out hb8)
        have HA7:=Fx (HA9.out.keep hb8)
        have HC7:=Fx (And.intro ((hb8.cell (p:=⟨g5,6,none⟩) HZ1.out.2.2.2.1).trans HZ1.out.1) (Nat.lt_of_lt_of_le HZ1.out.2.2.2.1 hb8.size))
        refine hK.out _ _ HSS ?_
        clear hK K hb7 hb8 HSM t1 t2 t3 t4 t5 t6 t7 t8 t9
        try simp only[FG]
        refine Held.o1 34 110 HSS ?_
        refine Held.o1 35 111 HSS ?_
        refine Held.o1 36 112 HSS ?_
        refine Held.o1 43 119 HSS ?_
        refine Held.o1 44 120 HSS ?_
        refine Held.o1 45 121 HSS ?_
        refine wpAnyH_done (by kernel_rfl) ?_ _
        clear HSS HSC HSI
        go_upto_region 17 with fail
        have x6:=HC7.out.1
        have xl:=HC7.out.2
        go_wp2_with fail
        go_roundw
        case rel=>exact⟨k+1,c.b,by omega,by go_num,Fx (HA7.out),Fx (.inr (.inl ⟨j,b,by rw[HJ.out],HBB.out,HCB.out⟩)),HB7⟩
        case measure=>simp [intOf];omega
    ·have hjq:j<qn:=by rw[<-HQN.out];exact (FE hq).1
     have hdl:decide ((k:Int)<(rn:Int))=false:=by simp;omega
     have hdv:decide (((rn+bl+qn:Nat):Int) - (qn:Int)<=(k:Int))=true:=by simp;omega
     have HQQ:=Fx hq
     have HCC:=Fx hc
     clear hq hc
     go_upto_region 22 with fail
     have hcc:=HCC.out
     have hq6:=HQ6.out
     have ha6:=HA6.out.2.1
     have hb6:=HA6.out.2.2.1
     have hbw:=dZ HB4.out HB6.out
     obtain⟨b2,o2,c2,hv2,av2,hw2,_,_,hl2,q0,q1,q2,hhd,hat⟩:=(HQ.out.keep hbw).get HQQ.out
     rw[HQN.out] at hw2
     simp only[Value.slice.injEq,true_and] at hw2
     obtain⟨rfl,rfl⟩:=hw2
     obtain⟨ya,yc,rfl,_,_⟩:=hhd.form
     obtain⟨za,zc,rfl,_,_⟩:=hat.form
     have hc1:c.q.head=qy.head:=by rw[hcc];rfl
     have hc2:c.q.atoms=qy.atoms:=by rw[hcc];rfl
     have hsm:=fun W (hW:Below w6.heap.size w6 W)=>BU W ⟨qy.name.toArray⟩ (.slice i2 c.q.head.length j2) _ (.slice i3 c.q.atoms.length j3) _ qy.head qy.atoms ((show aI w6 (.slice i2 c.q.head.length j2) qy.head from hc1 ▸ ha6).keep hW) (hhd.keep hW) ((show aK w6 (.slice i3 c.q.atoms.length j3) qy.atoms from hc2 ▸ hb6).keep hW) (hat.keep hW)
     have x0:w6.cell? ⟨g5,0,none⟩=some (.int .i64 2):=(hq6.cell 0).trans (by rw[hcc];rfl)
     have x1:w6.cell? ⟨g5,3,none⟩=some (.string ⟨qy.name.toArray⟩):=(hq6.cell 3).trans (by rw[hcc];rfl)
     have x2:w6.cell? ⟨g5,4,none⟩=some (.slice i2 c.q.head.length j2):=(hq6.cell 4).trans rfl
     have x3:w6.cell? ⟨g5,5,none⟩=some (.slice i3 c.q.atoms.length j3):=(hq6.cell 5).trans rfl
     have xl:=hq6.lt
     obtain⟨hn,hhn⟩:∃ n,c.q.head.length=n:=⟨_,rfl⟩
     obtain⟨an,han⟩:∃ n,c.q.atoms.length=n:=⟨_,rfl⟩
     obtain⟨yn,hyn⟩:∃ n,qy.head.length=n:=⟨_,rfl⟩
     obtain⟨zn,hzn⟩:∃ n,qy.atoms.length=n:=⟨_,rfl⟩
     rw[hhn] at hsm x2
     rw[han] at hsm x3
     rw[hyn] at hsm q1
     rw[hzn] at hsm q2
     have hSF:w6.cell? ⟨g5,0,none⟩=some (.int .i64 2)/\w6.cell? ⟨g5,3,none⟩=some (.string ⟨qy.name.toArray⟩)/\w6.cell? ⟨g5,4,none⟩=some (.slice i2 hn j2)/\w6.cell? ⟨g5,5,none⟩=some (.slice i3 an j3)/\w6.cell? ⟨b2,o2+j * 3,none⟩=some (.string ⟨qy.name.toArray⟩)/\w6.cell? ⟨b2,o2+j * 3+1,none⟩=some (.slice ya yn yc)/\w6.cell? ⟨b2,o2+j * 3+2,none⟩=some (.slice za zn zc)/\g5<w6.heap.size/\b2<w6.heap.size:=⟨x0,x1,x2,x3,q0,q1,q2,xl,hl2⟩
     have HSF:=Fx hSF
     have HSM:=Fx hsm
     have hix:IntKind.i64.wrap ((rn:Int)+(bl:Int)+(j:Int) - IntKind.i64.wrap ((rn:Int)+(bl:Int)))=(j:Int):=by
      have e1:IntKind.i64.wrap ((rn:Int)+(bl:Int))=(rn:Int)+(bl:Int):=by rw[IntKind.wrap_i64];omega
      rw[e1]
      have e2:(rn:Int)+(bl:Int)+(j:Int) - ((rn:Int)+(bl:Int))=(j:Int):=by omega
      rw[e2,IntKind.wrap_i64]
      omega
     have hdk0:decide ((j:Int)<0)=false:=by simp
     have hdk1:decide ((qn:Int)<=(j:Int))=false:=by simp;omega
     clear hcc hc1 hc2 hq6 ha6 hb6 hbw hhd hat hsm x0 x1 x2 x3 xl hhn han hyn hzn hSF q0 q1 q2
     obtain⟨SS,hSS⟩:∃ SS:World->Prop,SS=fun W=>W.cell? ⟨g5,0,none⟩=some (.int .i64 2)/\W.cell? ⟨g5,3,none⟩=some (.string ⟨qy.name.toArray⟩)/\W.cell? ⟨g5,4,none⟩=some (.slice i2 hn j2)/\W.cell? ⟨g5,5,none⟩=some (.slice i3 an j3)/\W.cell? ⟨b2,o2+j * 3,none⟩=some (.string ⟨qy.name.toArray⟩)/\W.cell? ⟨b2,o2+j * 3+1,none⟩=some (.slice ya yn yc)/\W.cell? ⟨b2,o2+j * 3+2,none⟩=some (.slice za zn zc)/\g5<W.heap.size/\b2<W.heap.size:=⟨_,rfl⟩
     have HSC:=Fx (fun W (q:SS W)=>(by rw[hSS] at q;exact q:W.cell? ⟨g5,0,none⟩=some (.int .i64 2)/\W.cell? ⟨g5,3,none⟩=some (.string ⟨qy.name.toArray⟩)/\W.cell? ⟨g5,4,none⟩=some (.slice i2 hn j2)/\W.cell? ⟨g5,5,none⟩=some (.slice i3 an j3)/\W.cell? ⟨b2,o2+j * 3,none⟩=some (.string ⟨qy.name.toArray⟩)/\W.cell? ⟨b2,o2+j * 3+1,none⟩=some (.slice ya yn yc)/\W.cell? ⟨b2,o2+j * 3+2,none⟩=some (.slice za zn zc)/\g5<W.heap.size/\b2<W.heap.size))
     have HSI:=Fx (fun W (q:W.cell? ⟨g5,0,none⟩=some (.int .i64 2)/\W.cell? ⟨g5,3,none⟩=some (.string ⟨qy.name.toArray⟩)/\W.cell? ⟨g5,4,none⟩=some (.slice i2 hn j2)/\W.cell? ⟨g5,5,none⟩=some (.slice i3 an j3)/\W.cell? ⟨b2,o2+j * 3,none⟩=some (.string ⟨qy.name.toArray⟩)/\W.cell? ⟨b2,o2+j * 3+1,none⟩=some (.slice ya yn yc)/\W.cell? ⟨b2,o2+j * 3+2,none⟩=some (.slice za zn zc)/\g5<W.heap.size/\b2<W.heap.size)=>(by rw[hSS];exact q:SS W))
     clear hSS
     have HSS:SS w6.drew:=HSI.out _ (HSF.out)
     refine wp_region_held_drew (by kernel_rfl) HSS (fun _=>?_)
     refine Held.on 0 (fun K hK=>?_)
     go_simp
     refine hK.out _ _ HSS ?_
     clear hK K
     try simp only[FG]
     refine Held.on 1 (fun K hK=>?_)
     have q:=HSC.out _ HSS
     repeat (obtain⟨_,q⟩:=q)
     go_simp
     refine hK.out _ _ HSS ?_
     clear hK K
     clear q
     try simp only[FG]
     refine Held.on 2 (fun K hK=>?_)
     go_simp
     refine hK.out _ _ HSS ?_
     clear hK K
     try simp only[FG]
     refine Held.tk 3 153 HSS ?_
     refine Held.tk 4 154 HSS ?_
     refine Held.tk 5 155 HSS ?_
     refine Held.tk 6 156 HSS ?_
     refine Held.tk 7 157 HSS ?_
     refine Held.tk 8 158 HSS ?_
     refine Held.tk 9 159 HSS ?_
     refine Held.on 10 (fun K hK=>?_)
     go_simp
     refine hK.out _ _ HSS ?_
     clear hK K
     try simp only[FG]
     refine Held.on 11 (fun K hK=>?_)
     go_simp
     refine hK.out _ _ HSS ?_
     clear hK K
     try simp only[FG]
     refine Held.on 12 (fun K hK=>?_)
     go_simp
     refine hK.out _ _ HSS ?_
     clear hK K
     try simp only[FG]
     refine Held.on 13 (fun K hK=>?_)
     go_simp
     refine hK.out _ _ HSS ?_
     clear hK K
     try simp only[FG]
     refine Held.on 14 (fun K hK=>?_)
     go_simp
     refine hK.out _ _ HSS ?_
     clear hK K
     try simp only[FG]
     refine Held.tk 15 165 HSS ?_
     refine Held.on 16 (fun K hK=>?_)
     go_simp
     refine (HSM.out _ (ay Fy)).mono ?_
     rintro e w7 ⟨rfl,hb7⟩
     have hb8:Below w6.heap.size w6 w7:=dZ (ay Fy) hb7
     have HB7:=Fx (dZ HB6.out hb8)
     have HB67:=Fx hb8
     clear HSS
     have HSS:=HSI.out w7 ⟨(hb8.cell (p:=⟨g5,0,none⟩) HSF.out.2.2.2.2.2.2.2.1).trans HSF.out.1,(hb8.cell (p:=⟨g5,3,none⟩) HSF.out.2.2.2.2.2.2.2.1).trans HSF.out.2.1,(hb8.cell (p:=⟨g5,4,none⟩) HSF.out.2.2.2.2.2.2.2.1).trans HSF.out.2.2.1,(hb8.cell (p:=⟨g5,5,none⟩) HSF.out.2.2.2.2.2.2.2.1).trans HSF.out.2.2.2.1,(hb8.cell (p:=⟨b2,o2+j * 3,none⟩) HSF.out.2.2.2.2.2.2.2.2).trans HSF.out.2.2.2.2.1,(hb8.cell (p:=⟨b2,o2+j * 3+1,none⟩) HSF.out.2.2.2.2.2.2.2.2).trans HSF.out.2.2.2.2.2.1,(hb8.cell (p:=⟨b2,o2+j * 3+2,none⟩) HSF.out.2.2.2.2.2.2.2.2).trans HSF.out.2.2.2.2.2.2.1,Nat.lt_of_lt_of_le HSF.out.2.2.2.2.2.2.2.1 hb8.size,Nat.lt_of_lt_of_le HSF.out.2.2.2.2.2.2.2.2 hb8.size⟩
     refine hK.out _ _ HSS ?_
     clear hK K hb7 hb8 HSM
     try simp only[FG]
     refine Held.tk 17 167 HSS ?_
     refine Held.tk 18 168 HSS ?_
     refine wpAnyH_done (by kernel_rfl) ?_ _
     clear HSS HSC HSI
     go_wp2_with fail
     go_roundw
     case rel=>exact⟨k+1,lb,by omega,by go_num,Fx (HLA6.out.keep HB67.out),Fx (.inr (.inr (by rw[HBL.out];omega))),HB7⟩
     case measure=>simp [intOf];omega
