/- dump.check, walked. -/
import Derived.Test.YtgopfpjinohncaaGreatDoorInRlnZV
import Derived.Test.YtgopfpjinohncaaGreatDoorDm0ZV
import Derived.Test.YtgopfpjinohncaaGreatDoorKaV
import Derived.Test.YtgopfpjinohncaaGreatDoorQvV
namespace Go.Proofs.YtgopfpjinohncaaGreatDoor
open Go.RowKit
set_option linter.unusedVariables false
theorem chkRl_at {d:List Rln} {j:Nat} {r:Rln} (h:d[j]? = some r):chkRl (d.take j) (d.drop j)=if chkC r.name r.cols≠0 then chkC r.name r.cols else if (d.take j).any (fun s=>s.name == r.name) then 85 else chkRl (d.take (j+1)) (d.drop (j+1)):=by
 have hd:d.drop j=r::d.drop (j+1):=by
  rw[<- (List.getElem?_eq_some_iff.1 h).2,List.getElem_cons_drop]
 have ht:d.take (j+1)=d.take j++[r]:=by rw[List.take_add_one,h];rfl
 rw[hd,ht]
 rfl
theorem chkQl_at {d:List Qry} {j:Nat} {r:Qry} (h:d[j]? = some r):chkQl (d.take j) (d.drop j)=if chkQ r≠0 then chkQ r else if (d.take j).any (fun s=>s.name == r.name) then 85 else chkQl (d.take (j+1)) (d.drop (j+1)):=by
 have hd:d.drop j=r::d.drop (j+1):=by
  rw[<- (List.getElem?_eq_some_iff.1 h).2,List.getElem_cons_drop]
 have ht:d.take (j+1)=d.take j++[r]:=by rw[List.take_add_one,h];rfl
 rw[hd,ht]
 rfl
theorem chkTb_at {rels:List Rln} {d:List Tbl} {j:Nat} {t:Tbl} (h:d[j]? = some t):chkTb rels (d.drop j)=if tbOk rels t≠0 then tbOk rels t else chkTb rels (d.drop (j+1)):=by
 have hd:d.drop j=t::d.drop (j+1):=by
  rw[<- (List.getElem?_eq_some_iff.1 h).2,List.getElem_cons_drop]
 rw[hd]
 rfl
theorem tbOk_none {d:List Rln} {t:Tbl} (h:plI d t.rel = -1):tbOk d t=86:=by
 unfold tbOk
 rw[h]
 have:decide (0<=(-1:Int))=false:=by decide
 rw[this]
 split
 ·rename_i h1 h2
  cases h2
 ·rfl
theorem tbOk_some {d:List Rln} {t:Tbl} {k:Nat} {r:Rln} (h:plI d t.rel=k) (hr:d[k]? = some r):tbOk d t=if t.rows.all (fun z=>fitsD z r.cols)=true then 0 else 87:=by
 unfold tbOk
 rw[h]
 have:decide (0<=(k:Int))=true:=by simp
 rw[this,Int.toNat_natCast,hr]
theorem if_z {a b:Int} (h:a=0):(if a≠0 then a else b)=b:=if_neg (fun q=>q h)
theorem if_nz {a b:Int} (h:a≠0):(if a≠0 then a else b)=a:=if_pos h
def RlnB (l:List Rln):Prop:=∀ c∈l,c.name.length<=140737488351232/\∀ x∈c.cols,x.x.length<=140737488351232
theorem QryB.lens {q:Qry} (h:QryB q):LensA q.atoms:=fun a ha=>⟨by have:=(h.each a ha).1;omega,fun t ht=>by have:=((h.each a ha).2 t ht).2;omega⟩
set_option maxHeartbeats 16000000 in
set_option maxRecDepth 100000 in
theorem dcheck_any (w:World) (rv tv qv:Value) (rels:List Rln) (data:List Tbl) (qs:List Qry) (hR:RelsAt w rv rels) (hT:TblsAt w tv data) (hQ:QrysAt w qv qs) (bR:RlnB rels) (bQ:∀ q∈qs,QryB q) :
 Calls Tryz.prog 31 #[rv,tv,qv] w fun e w'=>e=.returned (.int .i64 (chkD rels data qs))/\Below w.heap.size w w':=by
 have hmf:∀ (fn:Fn) (first cap:Array Value) (w:World),(Instr.makeFunc fn first cap).run Tryz.prog w=.ok (.func fn first cap) w:=fun _ _ _ _=>rfl
 have hnot:∀ (x:Bool) (w:World),(Op.unary .not (.bool x)).run Tryz.prog w=.ok (.bool (!x)) w:=fun _ _=>rfl
 obtain⟨ra,rc,rfl,hrn,hrm⟩:=hR.form
 obtain⟨ta,tc,rfl,htn,htm⟩:=hT.form
 obtain⟨qa,qc,rfl,hqn,hqm⟩:=hQ.form
 unfold maxLen at hrm htm hqm
 have HR:=Lib.hid hR
 have HT:=Lib.hid hT
 have HQ:=Lib.hid hQ
 have BR:=Lib.hid bR
 have BQ:=Lib.hid bQ
 obtain⟨RES,hRES⟩:∃ RES,RES=chkD rels data qs:=⟨_,rfl⟩
 rw[<-hRES]
 have HD:=Lib.hid hRES
 clear hR hT hQ bR bQ hRES
 generalize hN:rels.length=n at *
 generalize hM:data.length=m at *
 generalize hK:qs.length=qn at *
 have HN:=Lib.hid hN
 have HM:=Lib.hid hM
 have HK:=Lib.hid hK
 clear hN hM hK
 go_enter Tryz.func31,Tryz.ntmps31
 go_wp2_with fail
 go_loopw [20] (fun i wr=>∃ j:Nat,j<=n/\i=.int .i64 j/\Hid (RES=if chkRl (rels.take j) (rels.drop j)≠0 then chkRl (rels.take j) (rels.drop j) else if chkTb rels data≠0 then chkTb rels data else chkQl [] qs)/\Hid (Below w.heap.size w wr)) (fun i _=>n - (intOf i).toNat)
 case atStart=>exact⟨0,Nat.zero_le _,rfl,HD,Lib.hid (Below.refl _ _)⟩
 case round =>
  obtain⟨j,hj,rfl,HP,BW⟩:=hrel
  obtain⟨wo,rfl⟩:∃ wo:World,wo=wr:=⟨_,rfl⟩
  by_cases hlt:j<n
  ·obtain⟨r,hr⟩:∃ r,rels[j]? = some r:=⟨rels[j]'(by rw[HN.out];exact hlt),List.getElem?_eq_getElem (by rw[HN.out];exact hlt)⟩
   have hq:=HP.out
   rw[chkRl_at hr] at hq
   obtain⟨b1,o1,c1,cv,hv1,_,_,hl1,q0,q1,hcols,hcn⟩:=(HR.out.keep BW.out).get hr
   rw[HN.out] at hv1
   simp only[Value.slice.injEq,true_and] at hv1
   obtain⟨rfl,rfl⟩:=hv1
   obtain⟨ca,cc,rfl,_,_⟩:=hcols.form
   have hbr:=BR.out r (List.mem_of_getElem? hr)
   have hdk:decide ((j:Int)<0)=false:=by simp
   have hdn:decide ((n:Int)<=(j:Int))=false:=by simp;omega
   have hdj:decide ((n:Int)<(j:Int))=false:=by simp;omega
   have hdc:decide ((rc:Int)<(j:Int))=false:=by simp;omega
   have bk:Below wo.heap.size wo (wo.alloc (.cells #[.string ⟨r.name.toArray⟩,.slice ca r.cols.length cc] 57)):=balloc (Below.refl _ _) _
   have hbx:=Blk.new wo 57 #[.string ⟨r.name.toArray⟩,.slice ca r.cols.length cc]
   have hck:=check_any _ ⟨r.name.toArray⟩ _ r.cols (ColsAt.keep hcols bk) (by show r.name.length<=_;omega) (fun c hc=>by have:=hbr.2 c hc;omega)
   have hn0:(⟨r.name.toArray⟩:ByteArray).data.toList=r.name:=rfl
   rw[hn0] at hck
   have htk:=fun W (hW:Below w.heap.size w W) (hx:Blk W wo.heap.size 57 #[.string ⟨r.name.toArray⟩,.slice ca r.cols.length cc])=>taken_any W (.slice (some ⟨b1,o1,none⟩) j rc) (rels.take j) ((HR.out.keep hW).take (by rw[HN.out];omega) (by rw[HN.out])) wo.heap.size r.name _ hx
   have HCK:=Lib.hid hck
   have HTK:=Lib.hid htk
   have HBX:=Lib.hid hbx
   have HBK:=Lib.hid (BW.out.trans (bk.mono BW.out.size))
   have HQQ:=Lib.hid hq
   clear bk hbx hck htk hcols hr hq hbr hn0
   generalize r.cols.length=rn at *
   generalize (rels.take j).any (fun s=>s.name == r.name)=tk at *
   generalize chkC r.name r.cols=ck at *
   obtain⟨W1,hW1⟩:∃ W1,wo.alloc (.cells #[.string ⟨r.name.toArray⟩,.slice ca rn cc] 57)=W1:=⟨_,rfl⟩
   rw[hW1] at HCK HBX HBK
   have HW1:=Lib.hid hW1
   clear hW1
   have x0:=HBX.out.cell 0
   have x1:=HBX.out.cell 1
   have xl:=HBX.out.lt
   simp only[List.getElem?_toArray,List.getElem?_cons_zero,List.getElem?_cons_succ] at x0 x1
   by_cases hc0:ck=0
   ·have hce:(ck != 0)=false:=by simp [hc0]
    have hq:=HQQ.out
    rw[if_z hc0] at hq
    subst hc0
    have HQ3:=Lib.hid hq
    clear hq
    go_upto_region 4 with fail
    rw[HW1.out]
    clear q0 q1
    go_wp2_with fail
    refine HCK.out.mono ?_
    rintro e w2 ⟨rfl,hb2⟩
    have HB2:=Lib.hid (HBK.out.trans (hb2.mono HBK.out.size))
    have HBX2:=Lib.hid (HBX.out.below hb2 HBX.out.lt)
    have HT2:=Lib.hid (HTK.out _ HB2.out HBX2.out)
    clear hb2 x0 x1 xl
    go_wp2_with fail
    refine HT2.out.mono ?_
    rintro e w3 ⟨rfl,hb3⟩
    have HB3:=Lib.hid (HB2.out.trans (hb3.mono HB2.out.size))
    clear hb3
    cases tk with
    | true =>
      have hq:=HQ3.out
      rw[if_pos rfl,if_pos (by decide)] at hq
      subst hq
      go_wp2_with fail
      go_ret
      exact⟨rfl,HB3.out⟩
    | false =>
      have hq:=HQ3.out
      rw[if_neg (show ¬ (false=true) by decide)] at hq
      have HQ4:=Lib.hid hq
      clear hq
      go_wp2_with fail
      go_roundw
      case rel=>exact⟨j+1,by omega,by go_num,HQ4,HB3⟩
      case measure=>simp [intOf];omega
   ·have hce:(ck != 0)=true:=by simpa using hc0
    have hq:=HQQ.out
    rw[if_nz hc0,if_nz hc0] at hq
    subst hq
    go_upto_region 4 with fail
    rw[HW1.out]
    clear q0 q1
    go_wp2_with fail
    refine HCK.out.mono ?_
    rintro e w2 ⟨rfl,hb2⟩
    have HB2:=Lib.hid (HBK.out.trans (hb2.mono HBK.out.size))
    clear hb2
    go_wp2_with fail
    go_ret
    exact⟨rfl,HB2.out⟩
  ·obtain rfl:j=n:=by omega
   have hq:=HP.out
   rw[List.drop_of_length_le (by rw[HN.out];exact Nat.le_refl _),show chkRl (rels.take j) []=0 from rfl,if_z (show (0:Int)=0 from rfl)] at hq
   have HD2:=Lib.hid hq
   clear hq HP
   go_wp2_with fail
   go_loopw [38] (fun i wr=>∃ k:Nat,k<=m/\i=.int .i64 k/\Hid (RES=if chkTb rels (data.drop k)≠0 then chkTb rels (data.drop k) else chkQl [] qs)/\Hid (Below w.heap.size w wr)) (fun i _=>m - (intOf i).toNat)
   case atStart=>exact⟨0,Nat.zero_le _,rfl,HD2,BW⟩
   case round =>
    obtain⟨k,hk,rfl,HP,BW⟩:=hrel
    obtain⟨wo,rfl⟩:∃ wo:World,wo=wr:=⟨_,rfl⟩
    by_cases hkt:k<m
    ·obtain⟨t,ht⟩:∃ t,data[k]? = some t:=⟨data[k]'(by rw[HM.out];exact hkt),List.getElem?_eq_getElem (by rw[HM.out];exact hkt)⟩
     have hq:=HP.out
     rw[chkTb_at ht] at hq
     obtain⟨b1,o1,c1,tv,hv1,_,_,hl1,q0,q1,hrows⟩:=(HT.out.keep BW.out).get ht
     rw[HM.out] at hv1
     simp only[Value.slice.injEq,true_and] at hv1
     obtain⟨rfl,rfl⟩:=hv1
     obtain⟨xa,xc,rfl,hxn,hxm⟩:=hrows.form
     unfold maxLen at hxm
     have hdk:decide ((k:Int)<0)=false:=by simp
     have hdn:decide ((m:Int)<=(k:Int))=false:=by simp;omega
     have bk:Below wo.heap.size wo (wo.alloc (.cells #[.string ⟨t.rel.toArray⟩,.slice xa t.rows.length xc] 47)):=balloc (Below.refl _ _) _
     have hbx:=Blk.new wo 47 #[.string ⟨t.rel.toArray⟩,.slice xa t.rows.length xc]
     have hpl:=dplace_any _ _ rels ((HR.out.keep BW.out).keep bk) _ _ _ hbx
     have HPL:=Lib.hid hpl
     have HBX:=Lib.hid hbx
     have HBK:=Lib.hid (BW.out.trans (bk.mono BW.out.size))
     have HRW:=Lib.hid (hrows.keep bk)
     have HQQ:=Lib.hid hq
     clear bk hbx hpl hrows ht hq
     obtain⟨rn,hrn'⟩:∃ rn,t.rows.length=rn:=⟨_,rfl⟩
     rw[hrn'] at HPL HBX HBK hxn HRW
     have HRN:=Lib.hid hrn'
     obtain⟨W1,hW1⟩:∃ W1,wo.alloc (.cells #[.string ⟨t.rel.toArray⟩,.slice xa rn xc] 47)=W1:=⟨_,rfl⟩
     rw[hW1] at HPL HBX HBK HRW
     have HW1:=Lib.hid hW1
     clear hW1 hrn'
     go_upto_region 13 with fail
     rw[HRN.out,HW1.out]
     clear q0 q1
     rcases plI_range rels t.rel with hp | ⟨i,r,hp,hr,hrnm⟩
     ·have hq:=HQQ.out
      rw[tbOk_none hp,if_nz (show (86:Int)≠0 by decide),if_nz (show (86:Int)≠0 by decide)] at hq
      subst hq
      rw[hp] at HPL
      clear hp
      go_wp2_with fail
      refine HPL.out.mono ?_
      rintro e w2 ⟨rfl,hb2⟩
      have HB2:=Lib.hid (HBK.out.trans (hb2.mono HBK.out.size))
      clear hb2
      go_wp2_with fail
      go_ret
      exact⟨rfl,HB2.out⟩
     ·rw[hp] at HPL
      have htb:=tbOk_some hp hr
      have hil:=(List.getElem?_eq_some_iff.1 hr).1
      rw[HN.out] at hil
      have hk0:¬ ((i:Int)<0):=by omega
      have hdi:decide ((i:Int)<0)=false:=by simp
      have hdn2:decide ((j:Int)<=(i:Int))=false:=by simp;omega
      have HTB:=Lib.hid htb
      have HRR:=Lib.hid hr
      clear hp htb hr
      go_wp2_with fail
      refine HPL.out.mono ?_
      rintro e w2 ⟨rfl,hb2⟩
      have hx2:=HBX.out.below hb2 HBX.out.lt
      have HB2:=Lib.hid (HBK.out.trans (hb2.mono HBK.out.size))
      have HRW2:=Lib.hid (HRW.out.keep hb2)
      have x1:=hx2.cell 1
      have xl:=hx2.lt
      simp only[List.getElem?_toArray,List.getElem?_cons_zero,List.getElem?_cons_succ] at x1
      clear hb2 hx2 HPL
      go_wp2_with fail
      clear x1 xl
      go_loopw [50] (fun i wr=>∃ p:Nat,p<=rn/\i=.int .i64 p/\Hid (∀ (q:Nat) (z:List Vl),q<p->t.rows[q]? = some z->fitsD z r.cols=true)/\Hid (Below w2.heap.size w2 wr)) (fun i _=>rn - (intOf i).toNat)
      case atStart=>exact⟨0,Nat.zero_le _,rfl,Lib.hid (fun q _ hq=>by omega),Lib.hid (Below.refl _ _)⟩
      case round =>
       obtain⟨p,hp,rfl,HF,BW2⟩:=hrel
       obtain⟨wp,rfl⟩:∃ wp:World,wp=wr:=⟨_,rfl⟩
       have HBP:=Lib.hid (HB2.out.trans (BW2.out.mono HB2.out.size))
       by_cases hpt:p<rn
       ·obtain⟨z,hz⟩:∃ z,t.rows[p]? = some z:=⟨t.rows[p]'(by rw[HRN.out];exact hpt),List.getElem?_eq_getElem (by rw[HRN.out];exact hpt)⟩
        have hRg:=(HRW2.out.keep BW2.out).get hz
        rw[HRN.out] at hRg
        obtain⟨b3,o3,c3,zv,hv3,_,_,hl3,z0,hzr,_⟩:=hRg
        simp only[Value.slice.injEq,true_and] at hv3
        obtain⟨rfl,rfl⟩:=hv3
        obtain⟨db,d_o,dcap,cv,hdv,_,_,hdl,_,k1,hcols,_⟩:=(HR.out.keep HBP.out).get HRR.out
        rw[HN.out] at hdv
        simp only[Value.slice.injEq,true_and] at hdv
        obtain⟨rfl,rfl⟩:=hdv
        obtain⟨za,zc,rfl,_,_⟩:=hzr.form
        obtain⟨ca,cc,rfl,_,_⟩:=hcols.form
        have hft:=dfits_any wp _ _ z r.cols hzr hcols
        simp only[Nat.mul_one,List.length_map] at z0
        simp only[List.length_map] at hft
        have hdp:decide ((p:Int)<0)=false:=by simp
        have hdpn:decide ((rn:Int)<=(p:Int))=false:=by simp;omega
        have HFT:=Lib.hid hft
        have HZ:=Lib.hid hz
        clear hft hzr hcols hz
        generalize hfz:fitsD z r.cols=fz at *
        have HFZ:=Lib.hid hfz
        clear hfz
        go_wp2_with fail
        refine HFT.out.mono ?_
        rintro e w5 ⟨rfl,hb5⟩
        have HB5:=Lib.hid (HBP.out.trans (hb5.mono HBP.out.size))
        have HB25:=Lib.hid (BW2.out.trans (hb5.mono BW2.out.size))
        clear hb5
        cases fz with
        | true =>
          go_wp2_with fail
          go_roundw
          case rel =>
           refine⟨p+1,by omega,by go_num,Lib.hid (fun q z' hq hz'=>?_),HB25⟩
           rcases Nat.lt_or_eq_of_le (Nat.le_of_lt_succ hq) with h | rfl
           ·exact HF.out q z' h hz'
           ·rw[HZ.out] at hz'
            cases hz'
            exact HFZ.out
          case measure=>simp [intOf];omega
        | false =>
          have hq:=HQQ.out
          have hall:¬ (t.rows.all (fun z=>fitsD z r.cols)=true):=fun h=>by
           have h1:=List.all_eq_true.1 h z (List.mem_of_getElem? HZ.out)
           rw[HFZ.out] at h1
           cases h1
          rw[HTB.out,if_neg hall,if_nz (show (87:Int)≠0 by decide),if_nz (show (87:Int)≠0 by decide)] at hq
          subst hq
          clear hall
          go_wp2_with fail
          go_ret
          exact⟨rfl,HB5.out⟩
       ·obtain rfl:p=rn:=by omega
        have hq:=HQQ.out
        have hall:t.rows.all (fun z=>fitsD z r.cols)=true:=List.all_eq_true.2 fun z hz=>by
         obtain⟨q,hq'⟩:=List.getElem?_of_mem hz
         exact HF.out q z (by rw[<-HRN.out];exact (List.getElem?_eq_some_iff.1 hq').1) hq'
        rw[HTB.out,if_pos hall,if_z (show (0:Int)=0 from rfl)] at hq
        have HQ3:=Lib.hid hq
        clear hq hall
        go_wp2_with fail
        go_roundw
        case rel=>exact⟨k+1,by omega,by go_num,HQ3,HBP⟩
        case measure=>simp [intOf];omega
    ·obtain rfl:k=m:=by omega
     have hq:=HP.out
     rw[List.drop_of_length_le (by rw[HM.out];exact Nat.le_refl _),show chkTb rels []=0 from rfl,if_z (show (0:Int)=0 from rfl)] at hq
     have HD3:=Lib.hid hq
     clear hq HP
     go_wp2_with fail
     go_loopw [66] (fun i wr=>∃ p:Nat,p<=qn/\i=.int .i64 p/\Hid (RES=chkQl (qs.take p) (qs.drop p))/\Hid (Below w.heap.size w wr)) (fun i _=>qn - (intOf i).toNat)
     case atStart=>exact⟨0,Nat.zero_le _,rfl,HD3,BW⟩
     case round =>
      obtain⟨p,hp,rfl,HP,BW⟩:=hrel
      obtain⟨wo,rfl⟩:∃ wo:World,wo=wr:=⟨_,rfl⟩
      by_cases hlt2:p<qn
      ·obtain⟨r,hr⟩:∃ r,qs[p]? = some r:=⟨qs[p]'(by rw[HK.out];exact hlt2),List.getElem?_eq_getElem (by rw[HK.out];exact hlt2)⟩
       have hq:=HP.out
       rw[chkQl_at hr] at hq
       obtain⟨b1,o1,c1,hv,av,hv1,_,_,hl1,q0,q1,q2,hh,ha⟩:=(HQ.out.keep BW.out).get hr
       rw[HK.out] at hv1
       simp only[Value.slice.injEq,true_and] at hv1
       obtain⟨rfl,rfl⟩:=hv1
       obtain⟨ha1,hc1,rfl,_,_⟩:=hh.form
       obtain⟨aa1,ac1,rfl,_,_⟩:=ha.form
       have hbr:=BQ.out r (List.mem_of_getElem? hr)
       have hdk:decide ((p:Int)<0)=false:=by simp
       have hdn:decide ((qn:Int)<=(p:Int))=false:=by simp;omega
       have hdj:decide ((qn:Int)<(p:Int))=false:=by simp;omega
       have hdc:decide ((qc:Int)<(p:Int))=false:=by simp;omega
       have hsh:=fun W (hW:Below wo.heap.size wo W)=>shape_any W ⟨r.name.toArray⟩ _ _ r.head r.atoms (RowAt.keep hh hW) (ha.keep hW) (by show r.name.length<=_;have:=hbr.name;omega) (fun s hs=>by have:=hbr.heads s hs;omega) hbr.lens
       have hn0:(⟨r.name.toArray⟩:ByteArray).data.toList=r.name:=rfl
       rw[hn0] at hsh
       have HSH:=Lib.hid hsh
       generalize r.head.length=n1 at *
       generalize r.atoms.length=n2 at *
       have bk:Below wo.heap.size wo (wo.alloc (.cells #[.string ⟨r.name.toArray⟩,.slice ha1 n1 hc1,.slice aa1 n2 ac1] 50)):=balloc (Below.refl _ _) _
       have hbx:=Blk.new wo 50 #[.string ⟨r.name.toArray⟩,.slice ha1 n1 hc1,.slice aa1 n2 ac1]
       have htk:=fun W (hW:Below w.heap.size w W) (hx:Blk W wo.heap.size 50 #[.string ⟨r.name.toArray⟩,.slice ha1 n1 hc1,.slice aa1 n2 ac1])=>takenQ_any W (.slice (some ⟨b1,o1,none⟩) p qc) (qs.take p) ((HQ.out.keep hW).take (by rw[HK.out];omega) (by rw[HK.out])) wo.heap.size r.name _ _ hx
       have HCK:=Lib.hid (HSH.out _ bk)
       have HTK:=Lib.hid htk
       have HBX:=Lib.hid hbx
       have HBK:=Lib.hid (BW.out.trans (bk.mono BW.out.size))
       have HQQ:=Lib.hid hq
       clear bk hbx hsh htk hh ha hr hq hbr hn0 HSH
       generalize (qs.take p).any (fun s=>s.name == r.name)=tk at *
       generalize chkQ r=ck at *
       obtain⟨W1,hW1⟩:∃ W1,wo.alloc (.cells #[.string ⟨r.name.toArray⟩,.slice ha1 n1 hc1,.slice aa1 n2 ac1] 50)=W1:=⟨_,rfl⟩
       rw[hW1] at HCK HBX HBK
       have HW1:=Lib.hid hW1
       clear hW1
       have x0:=HBX.out.cell 0
       have x1:=HBX.out.cell 1
       have x2:=HBX.out.cell 2
       have xl:=HBX.out.lt
       simp only[List.getElem?_toArray,List.getElem?_cons_zero,List.getElem?_cons_succ] at x0 x1 x2
       by_cases hc0:ck=0
       ·have hce:(ck != 0)=false:=by simp [hc0]
        have hq:=HQQ.out
        rw[if_z hc0] at hq
        subst hc0
        have HQ3:=Lib.hid hq
        clear hq
        go_upto_region 26 with fail
        rw[HW1.out]
        clear q0 q1 q2
        go_wp2_with fail
        refine HCK.out.mono ?_
        rintro e w2 ⟨rfl,hb2⟩
        have HB2:=Lib.hid (HBK.out.trans (hb2.mono HBK.out.size))
        have HBX2:=Lib.hid (HBX.out.below hb2 HBX.out.lt)
        have HT2:=Lib.hid (HTK.out _ HB2.out HBX2.out)
        clear hb2 x0 x1 x2 xl
        go_wp2_with fail
        refine HT2.out.mono ?_
        rintro e w3 ⟨rfl,hb3⟩
        have HB3:=Lib.hid (HB2.out.trans (hb3.mono HB2.out.size))
        clear hb3
        cases tk with
        | true =>
          have hq:=HQ3.out
          rw[if_pos rfl] at hq
          subst hq
          go_wp2_with fail
          go_ret
          exact⟨rfl,HB3.out⟩
        | false =>
          have hq:=HQ3.out
          rw[if_neg (show ¬ (false=true) by decide)] at hq
          have HQ4:=Lib.hid hq
          clear hq
          go_wp2_with fail
          go_roundw
          case rel=>exact⟨p+1,by omega,by go_num,HQ4,HB3⟩
          case measure=>simp [intOf];omega
       ·have hce:(ck != 0)=true:=by simpa using hc0
        have hq:=HQQ.out
        rw[if_nz hc0] at hq
        subst hq
        go_upto_region 26 with fail
        rw[HW1.out]
        clear q0 q1 q2
        go_wp2_with fail
        refine HCK.out.mono ?_
        rintro e w2 ⟨rfl,hb2⟩
        have HB2:=Lib.hid (HBK.out.trans (hb2.mono HBK.out.size))
        clear hb2
        go_wp2_with fail
        go_ret
        exact⟨rfl,HB2.out⟩
      ·obtain rfl:p=qn:=by omega
       have hq:=HP.out
       rw[List.drop_of_length_le (by rw[HK.out];exact Nat.le_refl _),show chkQl (qs.take p) []=0 from rfl] at hq
       subst hq
       go_wp2_with fail
       go_ret
       exact⟨rfl,BW.out⟩
end Go.Proofs.YtgopfpjinohncaaGreatDoor
