/- dump.check, walked. dump.Lines, plainly: what a right dump promises of its rows. What is wrong in a dump, as the document finds it, and its lines, plainly. command.Text at a right declaration and at a right view, walked. -/
import Derived.Test.YtgopfpjinohncaaGreatDoorInRlnZL
import Derived.Test.YtgopfpjinohncaaGreatDoorDm0ZL
import Derived.Test.YtgopfpjinohncaaGreatDoorKaL
import Derived.Test.YtgopfpjinohncaaGreatDoorQvL
import Derived.Test.YtgopfpjinohncaaGreatDoorKfL
import Derived.Test.YtgopfpjinohncaaGreatDoorBaL
import Derived.Test.YtgopfpjinohncaaGreatDoorGlL
import Derived.Test.YtgopfpjinohncaaGreatDoorShelfZL
namespace Go.Proofs.YtgopfpjinohncaaGreatDoor
open Go.RowKit
set_option linter.unusedVariables false
theorem chkRl_at {d:List Rln} {j:Nat} {r:Rln} (h:d[j]? = some r):chkRl (d.take j) (d.drop j)=if chkC r.name r.cols≠0 then chkC r.name r.cols else if (d.take j).any (fun s=>s.name == r.name) then 85 else chkRl (d.take (j+1)) (d.drop (j+1)):=by
 have hd:d.drop j=r::d.drop (j+1):=by
  rw[<- (List.getElem?_eq_some_iff.1 h).2,List.getElem_cons_drop]
 have ht:d.take (j+1)=d.take j++[r]:=by rw[List.take_add_one,h];rfl
 rw[hd,ht]
 rfl
theorem chkQl_at {d:List Qry} {j:Nat} {r:Qry} (h:d[j]? = some r):chkQl (d.take j) (d.drop j)=if chkQ r≠0 then chkQ r else if (d.take j).any (fun s=>s.name == r.name) then 85 else chkQl (d.take (j+1)) (d.drop (j+1)):=by
 have hd:d.drop j=r::d.drop (j+1):=by
  rw[<- (List.getElem?_eq_some_iff.1 h).2,List.getElem_cons_drop]
 have ht:d.take (j+1)=d.take j++[r]:=by rw[List.take_add_one,h];rfl
 rw[hd,ht]
 rfl
theorem chkTb_at {rels:List Rln} {d:List Tbl} {j:Nat} {t:Tbl} (h:d[j]? = some t):chkTb rels (d.drop j)=if tbOk rels t≠0 then tbOk rels t else chkTb rels (d.drop (j+1)):=by
 have hd:d.drop j=t::d.drop (j+1):=by
  rw[<- (List.getElem?_eq_some_iff.1 h).2,List.getElem_cons_drop]
 rw[hd]
 rfl
theorem tbOk_none {d:List Rln} {t:Tbl} (h:plI d t.rel = -1):tbOk d t=86:=by
 unfold tbOk
 rw[h]
 have:decide (0<=(-1:Int))=false:=by decide
 rw[this]
 split
 ·rename_i h1 h2
  cases h2
 ·rfl
theorem tbOk_some {d:List Rln} {t:Tbl} {k:Nat} {r:Rln} (h:plI d t.rel=k) (hr:d[k]? = some r):tbOk d t=if t.rows.all (fun z=>fitsD z r.cols)=true then 0 else 87:=by
 unfold tbOk
 rw[h]
 have:decide (0<=(k:Int))=true:=by simp
 rw[this,Int.toNat_natCast,hr]
theorem if_z {a b:Int} (h:a=0):(if a≠0 then a else b)=b:=if_neg (fun q=>q h)
theorem if_nz {a b:Int} (h:a≠0):(if a≠0 then a else b)=a:=if_pos h
def RlnB (l:List Rln):Prop:=∀ c∈l,c.name.length<=140737488351232/\∀ x∈c.cols,x.x.length<=140737488351232
theorem QryB.lens {q:Qry} (h:QryB q):LensA q.atoms:=fun a ha=>⟨by have:=(h.each a ha).1;omega,fun t ht=>by have:=((h.each a ha).2 t ht).2;omega⟩
set_option maxHeartbeats 16000000 in
set_option maxRecDepth 100000 in
theorem dcheck_any (w:World) (rv tv qv:Value) (rels:List Rln) (data:List Tbl) (qs:List Qry) (hR:RelsAt w rv rels) (hT:TblsAt w tv data) (hQ:QrysAt w qv qs) (bR:RlnB rels) (bQ:∀ q∈qs,QryB q) :
 Calls Tryz.prog 31 #[rv,tv,qv] w fun e w'=>e=.returned (.int .i64 (chkD rels data qs))/\Below w.heap.size w w':=by
 have hmf:∀ (fn:Fn) (first cap:Array Value) (w:World),(Instr.makeFunc fn first cap).run Tryz.prog w=.ok (.func fn first cap) w:=fun _ _ _ _=>rfl
 have hnot:∀ (x:Bool) (w:World),(Op.unary .not (.bool x)).run Tryz.prog w=.ok (.bool (!x)) w:=fun _ _=>rfl
 obtain⟨ra,rc,rfl,hrn,hrm⟩:=hR.form
 obtain⟨ta,tc,rfl,htn,htm⟩:=hT.form
 obtain⟨qa,qc,rfl,hqn,hqm⟩:=hQ.form
 unfold maxLen at hrm htm hqm
 have HR:=Lib.hid hR
 have HT:=Lib.hid hT
 have HQ:=Lib.hid hQ
 have BR:=Lib.hid bR
 have BQ:=Lib.hid bQ
 obtain⟨RES,hRES⟩:∃ RES,RES=chkD rels data qs:=⟨_,rfl⟩
 rw[<-hRES]
 have HD:=Lib.hid hRES
 clear hR hT hQ bR bQ hRES
 generalize hN:rels.length=n at *
 generalize hM:data.length=m at *
 generalize hK:qs.length=qn at *
 have HN:=Lib.hid hN
 have HM:=Lib.hid hM
 have HK:=Lib.hid hK
 clear hN hM hK
 go_enter Tryz.func31,Tryz.ntmps31
 go_wp2_with fail
 go_loopw [20] (fun i wr=>∃ j:Nat,j<=n/\i=.int .i64 j/\Hid (RES=if chkRl (rels.take j) (rels.drop j)≠0 then chkRl (rels.take j) (rels.drop j) else if chkTb rels data≠0 then chkTb rels data else chkQl [] qs)/\Hid (Below w.heap.size w wr)) (fun i _=>n - (intOf i).toNat)
 case atStart=>exact⟨0,Nat.zero_le _,rfl,HD,Lib.hid (Below.refl _ _)⟩
 case round =>
  obtain⟨j,hj,rfl,HP,BW⟩:=hrel
  obtain⟨wo,rfl⟩:∃ wo:World,wo=wr:=⟨_,rfl⟩
  by_cases hlt:j<n
  ·obtain⟨r,hr⟩:∃ r,rels[j]? = some r:=⟨rels[j]'(by rw[HN.out];exact hlt),List.getElem?_eq_getElem (by rw[HN.out];exact hlt)⟩
   have hq:=HP.out
   rw[chkRl_at hr] at hq
   obtain⟨b1,o1,c1,cv,hv1,_,_,hl1,q0,q1,hcols,hcn⟩:=(HR.out.keep BW.out).get hr
   rw[HN.out] at hv1
   simp only[Value.slice.injEq,true_and] at hv1
   obtain⟨rfl,rfl⟩:=hv1
   obtain⟨ca,cc,rfl,_,_⟩:=hcols.form
   have hbr:=BR.out r (List.mem_of_getElem? hr)
   have hdk:decide ((j:Int)<0)=false:=by simp
   have hdn:decide ((n:Int)<=(j:Int))=false:=by simp;omega
   have hdj:decide ((n:Int)<(j:Int))=false:=by simp;omega
   have hdc:decide ((rc:Int)<(j:Int))=false:=by simp;omega
   have bk:Below wo.heap.size wo (wo.alloc (.cells #[.string ⟨r.name.toArray⟩,.slice ca r.cols.length cc] 57)):=balloc (Below.refl _ _) _
   have hbx:=Blk.new wo 57 #[.string ⟨r.name.toArray⟩,.slice ca r.cols.length cc]
   have hck:=check_any _ ⟨r.name.toArray⟩ _ r.cols (ColsAt.keep hcols bk) (by show r.name.length<=_;omega) (fun c hc=>by have:=hbr.2 c hc;omega)
   have hn0:(⟨r.name.toArray⟩:ByteArray).data.toList=r.name:=rfl
   rw[hn0] at hck
   have htk:=fun W (hW:Below w.heap.size w W) (hx:Blk W wo.heap.size 57 #[.string ⟨r.name.toArray⟩,.slice ca r.cols.length cc])=>taken_any W (.slice (some ⟨b1,o1,none⟩) j rc) (rels.take j) ((HR.out.keep hW).take (by rw[HN.out];omega) (by rw[HN.out])) wo.heap.size r.name _ hx
   have HCK:=Lib.hid hck
   have HTK:=Lib.hid htk
   have HBX:=Lib.hid hbx
   have HBK:=Lib.hid (BW.out.trans (bk.mono BW.out.size))
   have HQQ:=Lib.hid hq
   clear bk hbx hck htk hcols hr hq hbr hn0
   generalize r.cols.length=rn at *
   generalize (rels.take j).any (fun s=>s.name == r.name)=tk at *
   generalize chkC r.name r.cols=ck at *
   obtain⟨W1,hW1⟩:∃ W1,wo.alloc (.cells #[.string ⟨r.name.toArray⟩,.slice ca rn cc] 57)=W1:=⟨_,rfl⟩
   rw[hW1] at HCK HBX HBK
   have HW1:=Lib.hid hW1
   clear hW1
   have x0:=HBX.out.cell 0
   have x1:=HBX.out.cell 1
   have xl:=HBX.out.lt
   simp only[List.getElem?_toArray,List.getElem?_cons_zero,List.getElem?_cons_succ] at x0 x1
   by_cases hc0:ck=0
   ·have hce:(ck != 0)=false:=by simp [hc0]
    have hq:=HQQ.out
    rw[if_z hc0] at hq
    subst hc0
    have HQ3:=Lib.hid hq
    clear hq
    go_upto_region 4 with fail
    rw[HW1.out]
    clear q0 q1
    go_wp2_with fail
    refine HCK.out.mono ?_
    rintro e w2 ⟨rfl,hb2⟩
    have HB2:=Lib.hid (HBK.out.trans (hb2.mono HBK.out.size))
    have HBX2:=Lib.hid (HBX.out.below hb2 HBX.out.lt)
    have HT2:=Lib.hid (HTK.out _ HB2.out HBX2.out)
    clear hb2 x0 x1 xl
    go_wp2_with fail
    refine HT2.out.mono ?_
    rintro e w3 ⟨rfl,hb3⟩
    have HB3:=Lib.hid (HB2.out.trans (hb3.mono HB2.out.size))
    clear hb3
    cases tk with
    | true =>
      have hq:=HQ3.out
      rw[if_pos rfl,if_pos (by decide)] at hq
      subst hq
      go_wp2_with fail
      go_ret
      exact⟨rfl,HB3.out⟩
    | false =>
      have hq:=HQ3.out
      rw[if_neg (show ¬ (false=true) by decide)] at hq
      have HQ4:=Lib.hid hq
      clear hq
      go_wp2_with fail
      go_roundw
      case rel=>exact⟨j+1,by omega,by go_num,HQ4,HB3⟩
      case measure=>simp [intOf];omega
   ·have hce:(ck != 0)=true:=by simpa using hc0
    have hq:=HQQ.out
    rw[if_nz hc0,if_nz hc0] at hq
    subst hq
    go_upto_region 4 with fail
    rw[HW1.out]
    clear q0 q1
    go_wp2_with fail
    refine HCK.out.mono ?_
    rintro e w2 ⟨rfl,hb2⟩
    have HB2:=Lib.hid (HBK.out.trans (hb2.mono HBK.out.size))
    clear hb2
    go_wp2_with fail
    go_ret
    exact⟨rfl,HB2.out⟩
  ·obtain rfl:j=n:=by omega
   have hq:=HP.out
   rw[List.drop_of_length_le (by rw[HN.out];exact Nat.le_refl _),show chkRl (rels.take j) []=0 from rfl,if_z (show (0:Int)=0 from rfl)] at hq
   have HD2:=Lib.hid hq
   clear hq HP
   go_wp2_with fail
   go_loopw [38] (fun i wr=>∃ k:Nat,k<=m/\i=.int .i64 k/\Hid (RES=if chkTb rels (data.drop k)≠0 then chkTb rels (data.drop k) else chkQl [] qs)/\Hid (Below w.heap.size w wr)) (fun i _=>m - (intOf i).toNat)
   case atStart=>exact⟨0,Nat.zero_le _,rfl,HD2,BW⟩
   case round =>
    obtain⟨k,hk,rfl,HP,BW⟩:=hrel
    obtain⟨wo,rfl⟩:∃ wo:World,wo=wr:=⟨_,rfl⟩
    by_cases hkt:k<m
    ·obtain⟨t,ht⟩:∃ t,data[k]? = some t:=⟨data[k]'(by rw[HM.out];exact hkt),List.getElem?_eq_getElem (by rw[HM.out];exact hkt)⟩
     have hq:=HP.out
     rw[chkTb_at ht] at hq
     obtain⟨b1,o1,c1,tv,hv1,_,_,hl1,q0,q1,hrows⟩:=(HT.out.keep BW.out).get ht
     rw[HM.out] at hv1
     simp only[Value.slice.injEq,true_and] at hv1
     obtain⟨rfl,rfl⟩:=hv1
     obtain⟨xa,xc,rfl,hxn,hxm⟩:=hrows.form
     unfold maxLen at hxm
     have hdk:decide ((k:Int)<0)=false:=by simp
     have hdn:decide ((m:Int)<=(k:Int))=false:=by simp;omega
     have bk:Below wo.heap.size wo (wo.alloc (.cells #[.string ⟨t.rel.toArray⟩,.slice xa t.rows.length xc] 47)):=balloc (Below.refl _ _) _
     have hbx:=Blk.new wo 47 #[.string ⟨t.rel.toArray⟩,.slice xa t.rows.length xc]
     have hpl:=dplace_any _ _ rels ((HR.out.keep BW.out).keep bk) _ _ _ hbx
     have HPL:=Lib.hid hpl
     have HBX:=Lib.hid hbx
     have HBK:=Lib.hid (BW.out.trans (bk.mono BW.out.size))
     have HRW:=Lib.hid (hrows.keep bk)
     have HQQ:=Lib.hid hq
     clear bk hbx hpl hrows ht hq
     obtain⟨rn,hrn'⟩:∃ rn,t.rows.length=rn:=⟨_,rfl⟩
     rw[hrn'] at HPL HBX HBK hxn HRW
     have HRN:=Lib.hid hrn'
     obtain⟨W1,hW1⟩:∃ W1,wo.alloc (.cells #[.string ⟨t.rel.toArray⟩,.slice xa rn xc] 47)=W1:=⟨_,rfl⟩
     rw[hW1] at HPL HBX HBK HRW
     have HW1:=Lib.hid hW1
     clear hW1 hrn'
     go_upto_region 13 with fail
     rw[HRN.out,HW1.out]
     clear q0 q1
     rcases plI_range rels t.rel with hp | ⟨i,r,hp,hr,hrnm⟩
     ·have hq:=HQQ.out
      rw[tbOk_none hp,if_nz (show (86:Int)≠0 by decide),if_nz (show (86:Int)≠0 by decide)] at hq
      subst hq
      rw[hp] at HPL
      clear hp
      go_wp2_with fail
      refine HPL.out.mono ?_
      rintro e w2 ⟨rfl,hb2⟩
      have HB2:=Lib.hid (HBK.out.trans (hb2.mono HBK.out.size))
      clear hb2
      go_wp2_with fail
      go_ret
      exact⟨rfl,HB2.out⟩
     ·rw[hp] at HPL
      have htb:=tbOk_some hp hr
      have hil:=(List.getElem?_eq_some_iff.1 hr).1
      rw[HN.out] at hil
      have hk0:¬ ((i:Int)<0):=by omega
      have hdi:decide ((i:Int)<0)=false:=by simp
      have hdn2:decide ((j:Int)<=(i:Int))=false:=by simp;omega
      have HTB:=Lib.hid htb
      have HRR:=Lib.hid hr
      clear hp htb hr
      go_wp2_with fail
      refine HPL.out.mono ?_
      rintro e w2 ⟨rfl,hb2⟩
      have hx2:=HBX.out.below hb2 HBX.out.lt
      have HB2:=Lib.hid (HBK.out.trans (hb2.mono HBK.out.size))
      have HRW2:=Lib.hid (HRW.out.keep hb2)
      have x1:=hx2.cell 1
      have xl:=hx2.lt
      simp only[List.getElem?_toArray,List.getElem?_cons_zero,List.getElem?_cons_succ] at x1
      clear hb2 hx2 HPL
      go_wp2_with fail
      clear x1 xl
      go_loopw [50] (fun i wr=>∃ p:Nat,p<=rn/\i=.int .i64 p/\Hid (∀ (q:Nat) (z:List Vl),q<p->t.rows[q]? = some z->fitsD z r.cols=true)/\Hid (Below w2.heap.size w2 wr)) (fun i _=>rn - (intOf i).toNat)
      case atStart=>exact⟨0,Nat.zero_le _,rfl,Lib.hid (fun q _ hq=>by omega),Lib.hid (Below.refl _ _)⟩
      case round =>
       obtain⟨p,hp,rfl,HF,BW2⟩:=hrel
       obtain⟨wp,rfl⟩:∃ wp:World,wp=wr:=⟨_,rfl⟩
       have HBP:=Lib.hid (HB2.out.trans (BW2.out.mono HB2.out.size))
       by_cases hpt:p<rn
       ·obtain⟨z,hz⟩:∃ z,t.rows[p]? = some z:=⟨t.rows[p]'(by rw[HRN.out];exact hpt),List.getElem?_eq_getElem (by rw[HRN.out];exact hpt)⟩
        have hRg:=(HRW2.out.keep BW2.out).get hz
        rw[HRN.out] at hRg
        obtain⟨b3,o3,c3,zv,hv3,_,_,hl3,z0,hzr,_⟩:=hRg
        simp only[Value.slice.injEq,true_and] at hv3
        obtain⟨rfl,rfl⟩:=hv3
        obtain⟨db,d_o,dcap,cv,hdv,_,_,hdl,_,k1,hcols,_⟩:=(HR.out.keep HBP.out).get HRR.out
        rw[HN.out] at hdv
        simp only[Value.slice.injEq,true_and] at hdv
        obtain⟨rfl,rfl⟩:=hdv
        obtain⟨za,zc,rfl,_,_⟩:=hzr.form
        obtain⟨ca,cc,rfl,_,_⟩:=hcols.form
        have hft:=dfits_any wp _ _ z r.cols hzr hcols
        simp only[Nat.mul_one,List.length_map] at z0
        simp only[List.length_map] at hft
        have hdp:decide ((p:Int)<0)=false:=by simp
        have hdpn:decide ((rn:Int)<=(p:Int))=false:=by simp;omega
        have HFT:=Lib.hid hft
        have HZ:=Lib.hid hz
        clear hft hzr hcols hz
        generalize hfz:fitsD z r.cols=fz at *
        have HFZ:=Lib.hid hfz
        clear hfz
        go_wp2_with fail
        refine HFT.out.mono ?_
        rintro e w5 ⟨rfl,hb5⟩
        have HB5:=Lib.hid (HBP.out.trans (hb5.mono HBP.out.size))
        have HB25:=Lib.hid (BW2.out.trans (hb5.mono BW2.out.size))
        clear hb5
        cases fz with
        | true =>
          go_wp2_with fail
          go_roundw
          case rel =>
           refine⟨p+1,by omega,by go_num,Lib.hid (fun q z' hq hz'=>?_),HB25⟩
           rcases Nat.lt_or_eq_of_le (Nat.le_of_lt_succ hq) with h | rfl
           ·exact HF.out q z' h hz'
           ·rw[HZ.out] at hz'
            cases hz'
            exact HFZ.out
          case measure=>simp [intOf];omega
        | false =>
          have hq:=HQQ.out
          have hall:¬ (t.rows.all (fun z=>fitsD z r.cols)=true):=fun h=>by
           have h1:=List.all_eq_true.1 h z (List.mem_of_getElem? HZ.out)
           rw[HFZ.out] at h1
           cases h1
          rw[HTB.out,if_neg hall,if_nz (show (87:Int)≠0 by decide),if_nz (show (87:Int)≠0 by decide)] at hq
          subst hq
          clear hall
          go_wp2_with fail
          go_ret
          exact⟨rfl,HB5.out⟩
       ·obtain rfl:p=rn:=by omega
        have hq:=HQQ.out
        have hall:t.rows.all (fun z=>fitsD z r.cols)=true:=List.all_eq_true.2 fun z hz=>by
         obtain⟨q,hq'⟩:=List.getElem?_of_mem hz
         exact HF.out q z (by rw[<-HRN.out];exact (List.getElem?_eq_some_iff.1 hq').1) hq'
        rw[HTB.out,if_pos hall,if_z (show (0:Int)=0 from rfl)] at hq
        have HQ3:=Lib.hid hq
        clear hq hall
        go_wp2_with fail
        go_roundw
        case rel=>exact⟨k+1,by omega,by go_num,HQ3,HBP⟩
        case measure=>simp [intOf];omega
    ·obtain rfl:k=m:=by omega
     have hq:=HP.out
     rw[List.drop_of_length_le (by rw[HM.out];exact Nat.le_refl _),show chkTb rels []=0 from rfl,if_z (show (0:Int)=0 from rfl)] at hq
     have HD3:=Lib.hid hq
     clear hq HP
     go_wp2_with fail
     go_loopw [66] (fun i wr=>∃ p:Nat,p<=qn/\i=.int .i64 p/\Hid (RES=chkQl (qs.take p) (qs.drop p))/\Hid (Below w.heap.size w wr)) (fun i _=>qn - (intOf i).toNat)
     case atStart=>exact⟨0,Nat.zero_le _,rfl,HD3,BW⟩
     case round =>
      obtain⟨p,hp,rfl,HP,BW⟩:=hrel
      obtain⟨wo,rfl⟩:∃ wo:World,wo=wr:=⟨_,rfl⟩
      by_cases hlt2:p<qn
      ·obtain⟨r,hr⟩:∃ r,qs[p]? = some r:=⟨qs[p]'(by rw[HK.out];exact hlt2),List.getElem?_eq_getElem (by rw[HK.out];exact hlt2)⟩
       have hq:=HP.out
       rw[chkQl_at hr] at hq
       obtain⟨b1,o1,c1,hv,av,hv1,_,_,hl1,q0,q1,q2,hh,ha⟩:=(HQ.out.keep BW.out).get hr
       rw[HK.out] at hv1
       simp only[Value.slice.injEq,true_and] at hv1
       obtain⟨rfl,rfl⟩:=hv1
       obtain⟨ha1,hc1,rfl,_,_⟩:=hh.form
       obtain⟨aa1,ac1,rfl,_,_⟩:=ha.form
       have hbr:=BQ.out r (List.mem_of_getElem? hr)
       have hdk:decide ((p:Int)<0)=false:=by simp
       have hdn:decide ((qn:Int)<=(p:Int))=false:=by simp;omega
       have hdj:decide ((qn:Int)<(p:Int))=false:=by simp;omega
       have hdc:decide ((qc:Int)<(p:Int))=false:=by simp;omega
       have hsh:=fun W (hW:Below wo.heap.size wo W)=>shape_any W ⟨r.name.toArray⟩ _ _ r.head r.atoms (RowAt.keep hh hW) (ha.keep hW) (by show r.name.length<=_;have:=hbr.name;omega) (fun s hs=>by have:=hbr.heads s hs;omega) hbr.lens
       have hn0:(⟨r.name.toArray⟩:ByteArray).data.toList=r.name:=rfl
       rw[hn0] at hsh
       have HSH:=Lib.hid hsh
       generalize r.head.length=n1 at *
       generalize r.atoms.length=n2 at *
       have bk:Below wo.heap.size wo (wo.alloc (.cells #[.string ⟨r.name.toArray⟩,.slice ha1 n1 hc1,.slice aa1 n2 ac1] 50)):=balloc (Below.refl _ _) _
       have hbx:=Blk.new wo 50 #[.string ⟨r.name.toArray⟩,.slice ha1 n1 hc1,.slice aa1 n2 ac1]
       have htk:=fun W (hW:Below w.heap.size w W) (hx:Blk W wo.heap.size 50 #[.string ⟨r.name.toArray⟩,.slice ha1 n1 hc1,.slice aa1 n2 ac1])=>takenQ_any W (.slice (some ⟨b1,o1,none⟩) p qc) (qs.take p) ((HQ.out.keep hW).take (by rw[HK.out];omega) (by rw[HK.out])) wo.heap.size r.name _ _ hx
       have HCK:=Lib.hid (HSH.out _ bk)
       have HTK:=Lib.hid htk
       have HBX:=Lib.hid hbx
       have HBK:=Lib.hid (BW.out.trans (bk.mono BW.out.size))
       have HQQ:=Lib.hid hq
       clear bk hbx hsh htk hh ha hr hq hbr hn0 HSH
       generalize (qs.take p).any (fun s=>s.name == r.name)=tk at *
       generalize chkQ r=ck at *
       obtain⟨W1,hW1⟩:∃ W1,wo.alloc (.cells #[.string ⟨r.name.toArray⟩,.slice ha1 n1 hc1,.slice aa1 n2 ac1] 50)=W1:=⟨_,rfl⟩
       rw[hW1] at HCK HBX HBK
       have HW1:=Lib.hid hW1
       clear hW1
       have x0:=HBX.out.cell 0
       have x1:=HBX.out.cell 1
       have x2:=HBX.out.cell 2
       have xl:=HBX.out.lt
       simp only[List.getElem?_toArray,List.getElem?_cons_zero,List.getElem?_cons_succ] at x0 x1 x2
       by_cases hc0:ck=0
       ·have hce:(ck != 0)=false:=by simp [hc0]
        have hq:=HQQ.out
        rw[if_z hc0] at hq
        subst hc0
        have HQ3:=Lib.hid hq
        clear hq
        go_upto_region 26 with fail
        rw[HW1.out]
        clear q0 q1 q2
        go_wp2_with fail
        refine HCK.out.mono ?_
        rintro e w2 ⟨rfl,hb2⟩
        have HB2:=Lib.hid (HBK.out.trans (hb2.mono HBK.out.size))
        have HBX2:=Lib.hid (HBX.out.below hb2 HBX.out.lt)
        have HT2:=Lib.hid (HTK.out _ HB2.out HBX2.out)
        clear hb2 x0 x1 x2 xl
        go_wp2_with fail
        refine HT2.out.mono ?_
        rintro e w3 ⟨rfl,hb3⟩
        have HB3:=Lib.hid (HB2.out.trans (hb3.mono HB2.out.size))
        clear hb3
        cases tk with
        | true =>
          have hq:=HQ3.out
          rw[if_pos rfl] at hq
          subst hq
          go_wp2_with fail
          go_ret
          exact⟨rfl,HB3.out⟩
        | false =>
          have hq:=HQ3.out
          rw[if_neg (show ¬ (false=true) by decide)] at hq
          have HQ4:=Lib.hid hq
          clear hq
          go_wp2_with fail
          go_roundw
          case rel=>exact⟨p+1,by omega,by go_num,HQ4,HB3⟩
          case measure=>simp [intOf];omega
       ·have hce:(ck != 0)=true:=by simpa using hc0
        have hq:=HQQ.out
        rw[if_nz hc0] at hq
        subst hq
        go_upto_region 26 with fail
        rw[HW1.out]
        clear q0 q1 q2
        go_wp2_with fail
        refine HCK.out.mono ?_
        rintro e w2 ⟨rfl,hb2⟩
        have HB2:=Lib.hid (HBK.out.trans (hb2.mono HBK.out.size))
        clear hb2
        go_wp2_with fail
        go_ret
        exact⟨rfl,HB2.out⟩
      ·obtain rfl:p=qn:=by omega
       have hq:=HP.out
       rw[List.drop_of_length_le (by rw[HK.out];exact Nat.le_refl _),show chkQl (qs.take p) []=0 from rfl] at hq
       subst hq
       go_wp2_with fail
       go_ret
       exact⟨rfl,BW.out⟩
def txtRel (r:Rln):List UInt8:=textC { cmd0 with kind:=1,rel:=r }
def txtView (q:Qry):List UInt8:=textC { cmd0 with kind:=2,q:=q }
theorem linesP_eq (rels:List Rln) (data:List Tbl) (qs:List Qry):linesP rels data qs=rels.map txtRel++rels.flatMap (fun r=>goB r.name [] 0 (arrP (rowsIn r.name data)))++qs.map txtView:=rfl
theorem chkRl_all:∀ (l pre:List Rln),chkRl pre l=0->∀ r∈l,chkC r.name r.cols=0
 | [],_,_,_,h=>by cases h
 | x::l,pre,h,r,hr=>by
   unfold chkRl at h
   by_cases hx:chkC x.name x.cols=0
   ·rw[if_z hx] at h
    cases hp:pre.any (fun s=>s.name == x.name) with
    | true=>rw[hp,if_pos rfl] at h;cases h
    | false =>
      rw[hp,if_neg (show ¬ (false=true) by decide)] at h
      rcases List.mem_cons.1 hr with rfl | hr
      ·exact hx
      ·exact chkRl_all l _ h r hr
   ·rw[if_nz hx] at h
    exact absurd h hx
theorem chkTb_all (rels:List Rln):∀ (l:List Tbl),chkTb rels l=0->∀ t∈l,∀ z∈t.rows,rowB z=true
 | [],_,_,h=>by cases h
 | x::l,h,t,ht=>by
   unfold chkTb at h
   rw[if0] at h
   rcases List.mem_cons.1 ht with rfl | ht
   ·intro z hz
    have h1:=h.1
    unfold tbOk at h1
    split at h1
    ·rename_i r _ _
     by_cases hall:(t.rows.all fun z=>fitsD z r.cols)=true
     ·have h2:=List.all_eq_true.1 hall z hz
      unfold fitsD at h2
      simp only[Bool.and_eq_true] at h2
      exact h2.2.1
     ·rw[if_neg hall] at h1
      cases h1
    ·cases h1
   ·exact chkTb_all rels l h.2 t ht
theorem chkD_zero {rels:List Rln} {data:List Tbl} {qs:List Qry} (h:chkD rels data qs=0):chkRl [] rels=0/\chkTb rels data=0:=by
 unfold chkD at h
 rw[if0,if0] at h
 exact⟨h.1,h.2.1⟩
theorem word_small {rels:List Rln} {data:List Tbl} {qs:List Qry} (h:chkD rels data qs=0) (hB:∀ t∈data,RowsB t.rows) {r:Rln} (hr:r∈rels) {z:List Vl} (hz:z∈arrP (rowsIn r.name data)):(∀ u∈z,RangeV u)/\(wordP r.name z).length<=1048576:=by
 rw[mem_arrP,mem_rowsIn] at hz
 obtain⟨t,ht,_,hz⟩:=hz
 have h1:=chkRl_all rels [] (chkD_zero h).1 r hr
 have h2:=name_len16 (chkC_ok h1).1
 have h3:=chkTb_all rels data (chkD_zero h).2 t ht z hz
 have h4:=(rowT_size h3 (hB t ht z hz)).2
 refine⟨hB t ht z hz,?_⟩
 have h5:showRow z=rowT0 z:=by unfold showRow;rw[if_pos h3]
 unfold wordP
 rw[h5,List.length_cons,List.length_append]
 omega
theorem rowsIn_len (x:List UInt8):∀ l:List Tbl,(rowsIn x l).length<=nRows l
 | []=>Nat.le_refl _
 | t::l=>by
   have ih:=rowsIn_len x l
   unfold rowsIn
   rw[List.length_append]
   unfold nRows at *
   rw[List.map_cons,List.sum_cons]
   by_cases h:t.rel=x
   ·rw[if_pos h];omega
   ·rw[if_neg h,List.length_nil];omega
theorem rowsIn_snoc (x:List UInt8) (t:Tbl):∀ l:List Tbl,rowsIn x (l++[t])=rowsIn x l++if t.rel=x then t.rows else []
 | []=>by simp [rowsIn]
 | u::l=>by
   rw[List.cons_append]
   unfold rowsIn
   rw[rowsIn_snoc x t l,List.append_assoc]
theorem rowsIn_take {x:List UInt8} {l:List Tbl} {k:Nat} {t:Tbl} (h:l[k]? = some t):rowsIn x (l.take (k+1))=rowsIn x (l.take k)++if t.rel=x then t.rows else []:=by
 rw[List.take_add_one,h]
 exact rowsIn_snoc x t _
theorem nRows_take (l:List Tbl) (k:Nat):nRows (l.take k)<=nRows l:=by
 have h:l=l.take k++l.drop k:=(List.take_append_drop k l).symm
 have e:nRows l=nRows (l.take k)+nRows (l.drop k):=by
  conv=>lhs;rw[h]
  unfold nRows
  rw[List.map_append,List.sum_append]
 omega
theorem goB_len (x:List UInt8):∀ (rs:List (List Vl)) (line:List UInt8) (n:Nat),(goB x line n rs).length<=rs.length+(if n=0 then 0 else 1)
 | [],line,n=>by
   unfold goB
   by_cases h:n=0
   ·rw[if_neg (by omega),if_pos h];simp
   ·rw[if_pos (by omega),if_neg h];simp
 | r::rs,line,n=>by
   unfold goB
   have h1:=goB_len x rs ([98,97,116,99,104,32]++wordP x r) 1
   have h2:=goB_len x rs (line++[98,97,116,99,104,32]++wordP x r) 1
   have h3:=goB_len x rs (line++[44,32]++wordP x r) (n+1)
   rw[if_neg (by omega)] at h1 h2 h3
   split
   ·rename_i h
    rw[List.length_cons,List.length_cons,if_neg (by omega)]
    omega
   ·split
    ·rename_i h
     rw[List.length_cons]
     omega
    ·rename_i h
     rw[List.length_cons]
     omega
theorem idx_before {l:List (List UInt8)} {s:List UInt8} {k:Nat} (hm:s∈l.take k):idxI l s<k:=by
 have h1:s∈l:=List.mem_of_mem_take hm
 unfold idxI
 rw[if_pos h1]
 have h2:l.idxOf s=(l.take k).idxOf s:=by
  conv=>lhs;rw[<-List.take_append_drop k l]
  rw[List.idxOf_append,if_pos hm]
 have h3:(l.take k).idxOf s<(l.take k).length:=List.idxOf_lt_length_of_mem hm
 rw[List.length_take] at h3
 omega
theorem plI_pre {rels:List Rln} {i:Nat} {r:Rln} (h:rels[i]? = some r):decide (plI rels r.name<(i:Int))=(rels.take i).any fun s=>s.name == r.name:=by
 have hn:(rels.map (·.name))[i]? = some r.name:=by rw[List.getElem?_map,h];rfl
 have ht:(rels.map (·.name)).take i=(rels.take i).map (·.name):=List.map_take.symm
 have hm:r.name∈(rels.map (·.name)).take i ↔ ((rels.take i).any fun s=>s.name == r.name)=true:=by
  rw[ht,List.mem_map,List.any_eq_true]
  exact⟨fun⟨x,h1,h2⟩=>⟨x,h1,by simpa using h2⟩,fun⟨x,h1,h2⟩=>⟨x,h1,by simpa using h2⟩⟩
 rw[Bool.eq_iff_iff,<-hm,decide_eq_true_eq]
 constructor
 ·intro hlt
  by_cases hq:r.name∈(rels.map (·.name)).take i
  ·exact hq
  ·unfold plI at hlt
   rw[idxI_hit hn hq] at hlt
   omega
 ·exact fun hq=>idx_before hq
theorem fitsB_fitsD {row:List Vl} {cols:List Col} (h:cols.length<=30):fitsB row cols=fitsD row cols:=by
 by_cases hl:row.length=cols.length
 ·rw[Bool.eq_iff_iff]
  constructor
  ·intro hB
   unfold fitsB at hB
   rw[Bool.and_eq_true,decide_eq_true_eq,List.all_eq_true] at hB
   have ha:∀ (k:Nat) (u:Vl) (c:Col),row[k]? = some u->cols[k]? = some c->validB u.k u.n u.t=true/\u.k=c.k:=fun k u c h1 h2=>by
    have:=hB.2 _ (List.mem_of_getElem? (zip_get h1 h2))
    unfold fitG okF at this
    rw[Bool.and_eq_true,decide_eq_true_eq] at this
    exact this
   refine fitsD_yes hl ?_ fun k u c h1 h2=>(ha k u c h1 h2).2
   unfold rowB
   rw[Bool.and_eq_true,decide_eq_true_eq,Bool.not_eq_true',List.any_eq_false]
   refine⟨by omega,fun u hu=>?_⟩
   obtain⟨k,hk⟩:=List.getElem?_of_mem hu
   have hkl:=(List.getElem?_eq_some_iff.1 hk).1
   have:=(ha k u _ hk (List.getElem?_eq_getElem (by omega:k<cols.length))).1
   unfold badV
   rw[this]
   decide
  ·intro hD
   unfold fitsD at hD
   simp only[Bool.and_eq_true,decide_eq_true_eq,List.all_eq_true] at hD
   refine fits_yes hl fun k u c h1 h2=>?_
   have:=hD.2.2 _ (List.mem_of_getElem? (zip_get h1 h2))
   unfold kindG at this
   unfold okF
   rw[(rowB_all hD.2.1).2 u (List.mem_of_getElem? h1),Bool.true_and]
   exact this
 ·rw[fits_len hl,fitsD_len hl]
theorem tbOk_hit {d:List Rln} {t:Tbl} {z:List Vl} (hc:∀ r∈d,r.cols.length<=30) (hz:z∈t.rows) (hf:fitD d t.rel z≠0):tbOk d t=fitD d t.rel z:=by
 rcases plI_range d t.rel with hp | ⟨k,r,hp,hr,_⟩
 ·rw[tbOk_none hp,fitD_none hp]
 ·rw[fitD_some hp hr] at hf ⊢
  by_cases hq:fitsB z r.cols=true
  ·rw[if_pos hq] at hf
   exact absurd rfl hf
  ·rw[if_neg hq,tbOk_some hp hr,if_neg]
   intro hall
   have:=List.all_eq_true.1 hall z hz
   rw[<-fitsB_fitsD (hc r (List.mem_of_getElem? hr))] at this
   exact hq this
theorem tbOk_ok {d:List Rln} {t:Tbl} (hc:∀ r∈d,r.cols.length<=30) (hp:0<=plI d t.rel) (hf:∀ z∈t.rows,fitD d t.rel z=0):tbOk d t=0:=by
 rcases plI_range d t.rel with hq | ⟨k,r,hq,hr,_⟩
 ·omega
 ·rw[tbOk_some hq hr,if_pos]
  rw[List.all_eq_true]
  intro z hz
  have h1:=hf z hz
  rw[fitD_some hq hr] at h1
  rw[<-fitsB_fitsD (hc r (List.mem_of_getElem? hr))]
  by_cases h2:fitsB z r.cols=true
  ·exact h2
  ·rw[if_neg h2] at h1
   cases h1
theorem chkRl_cols {rels:List Rln} (h:chkRl [] rels=0):∀ r∈rels,r.cols.length<=30:=fun r hr=>by
 have:=(chkC_ok (chkRl_all rels [] h r hr)).2.2.1
 omega
theorem take_any_snoc {α:Type} (p:α->Bool) {l:List α} {k:Nat} {x:α} (h:l[k]? = some x):(l.take (k+1)).any p=((l.take k).any p || p x):=by
 rw[List.take_add_one,h]
 simp
theorem take_any_hit {α:Type} (p:α->Bool) {l:List α} {k n:Nat} {x:α} (h:l[k]? = some x) (hk:k<n) (hp:p x=true):(l.take n).any p=true :=
 List.any_eq_true.2 ⟨x,List.mem_of_getElem? (i:=k) (by rw[List.getElem?_take_of_lt hk];exact h),hp⟩
theorem goB_begin {x:List UInt8} {rows:List (List Vl)} {k:Nat} {r:List Vl} (h:rows[k]? = some r):goB x [] 0 (rows.drop k)=goB x ([98,97,116,99,104,32]++wordP x r) 1 (rows.drop (k+1)):=by
 rw[show rows.drop k=r::rows.drop (k+1) by rw[<- (List.getElem?_eq_some_iff.1 h).2,List.getElem_cons_drop]]
 show (if 0=256∨(0<0/\_) then _ else if 0=0 then _ else _)=_
 rw[if_neg (by simp),if_pos rfl]
 rfl
theorem goB_more {x:List UInt8} {rows:List (List Vl)} {k n:Nat} {r:List Vl} {s:List UInt8} (h:rows[k]? = some r) (h0:0<n) (h1:n<256) (hl:s.length+2+(wordP x r).length<=16384):goB x s n (rows.drop k)=goB x (s++[44,32]++wordP x r) (n+1) (rows.drop (k+1)):=by
 rw[show rows.drop k=r::rows.drop (k+1) by rw[<- (List.getElem?_eq_some_iff.1 h).2,List.getElem_cons_drop]]
 show (if n=256∨(0<n/\16384<s.length+2+(wordP x r).length) then _ else if n=0 then _ else _)=_
 rw[if_neg (by omega),if_neg (by omega)]
theorem goB_stop {x:List UInt8} {rows:List (List Vl)} {k n:Nat} {s:List UInt8} (h0:0<n) (h:∀ r,rows[k]? = some r->n=256∨16384<s.length+2+(wordP x r).length):goB x s n (rows.drop k)=s::goB x [] 0 (rows.drop k):=by
 cases hr:rows[k]? with
 | none =>
   rw[List.drop_of_length_le (List.getElem?_eq_none_iff.1 hr)]
   show (if 0<n then [s] else [])=_
   rw[if_pos h0]
   rfl
 | some r =>
   have h1:=h r hr
   rw[goB_begin hr]
   rw[show rows.drop k=r::rows.drop (k+1) by rw[<- (List.getElem?_eq_some_iff.1 hr).2,List.getElem_cons_drop]]
   show (if n=256∨(0<n/\16384<s.length+2+(wordP x r).length) then _ else if n=0 then _ else _)=_
   rw[if_pos (by omega)]
theorem chkQl_all:∀ (l pre:List Qry),chkQl pre l=0->∀ q∈l,chkQ q=0
 | [],_,_,_,h=>by cases h
 | x::l,pre,h,q,hq=>by
   unfold chkQl at h
   by_cases hx:chkQ x=0
   ·rw[if_z hx] at h
    cases hp:pre.any (fun s=>s.name == x.name) with
    | true=>rw[hp,if_pos rfl] at h;cases h
    | false =>
      rw[hp,if_neg (show ¬ (false=true) by decide)] at h
      rcases List.mem_cons.1 hq with rfl | hq
      ·exact hx
      ·exact chkQl_all l _ h q hq
   ·rw[if_nz hx] at h
    exact absurd h hx
theorem chkD_three {rels:List Rln} {data:List Tbl} {qs:List Qry} (h:chkD rels data qs=0):chkRl [] rels=0/\chkTb rels data=0/\chkQl [] qs=0:=by
 unfold chkD at h
 rw[if0,if0] at h
 exact h
theorem txtRel_eq {r:Rln} (h:chkC r.name r.cols=0):txtRel r=[114,101,108,32]++showC r.name r.cols:=by
 have hs:showC r.name r.cols≠[]:=by
  unfold showC
  rw[if_pos h]
  simp
 show (if (1:Int)<1∨18<(1:Int) then [] else match restC { cmd0 with kind:=1,rel:=r } with
  | none=>[]
  | some r=>if r=[] then wordsC.getD ((1:Int) - 1).toNat [] else wordsC.getD ((1:Int) - 1).toNat []++32::r)=_
 rw[if_neg (by decide)]
 have hr:restC { cmd0 with kind:=1,rel:=r }=some (showC r.name r.cols):=by
  show (if (1:Int)=1 then (if showC r.name r.cols=[] then none else some (showC r.name r.cols)) else _)=_
  rw[if_pos rfl,if_neg hs]
 rw[hr]
 show (if showC r.name r.cols=[] then _ else _)=_
 rw[if_neg hs]
 rfl
theorem txtView_eq {q:Qry} (h:chkQ q=0):txtView q=[118,105,101,119,32]++showQ q:=by
 have hs:showQ q≠[]:=by
  unfold showQ
  rw[if_pos h]
  unfold qT
  simp
 show (if (2:Int)<1∨18<(2:Int) then [] else match restC { cmd0 with kind:=2,q:=q } with
  | none=>[]
  | some r=>if r=[] then wordsC.getD ((2:Int) - 1).toNat [] else wordsC.getD ((2:Int) - 1).toNat []++32::r)=_
 rw[if_neg (by decide)]
 have hr:restC { cmd0 with kind:=2,q:=q }=some (showQ q):=by
  show (if (2:Int)=1 then _ else if (2:Int)=2∨(2:Int)=14∨(2:Int)=15 then (if showQ q=[] then none else some (showQ q)) else _)=_
  rw[if_neg (by decide),if_pos (by decide),if_neg hs]
 rw[hr]
 show (if showQ q=[] then _ else _)=_
 rw[if_neg hs]
 rfl
theorem bytes_of {R:ByteArray} {l:List UInt8} (h:R.data.toList=l):R=⟨l.toArray⟩:=ByteArray.ext (Array.toList_inj.1 (by simpa using h))
theorem word1:wordsA[1]? = some (.string ⟨#[114,101,108]⟩):=rfl
theorem word2:wordsA[2]? = some (.string ⟨#[118,105,101,119]⟩):=rfl
set_option maxHeartbeats 4000000 in
set_option maxRecDepth 100000 in
theorem relText_ok (w:World) (r:Rln) (cv:Value) (h:ColsAt w cv r.cols) (hk:chkC r.name r.cols=0) (hg:GlobW w) :
 Calls Tryz.prog 23 #[.agg #[.int .i64 1,.string ⟨r.name.toArray⟩,cv,.string ⟨#[]⟩,.slice none 0 0,.slice none 0 0,.slice none 0 0,.string ⟨#[]⟩,.int .i64 0,.int .i64 0,.slice none 0 0]] w fun e w'=>e=.returned (.string ⟨(txtRel r).toArray⟩)/\Below w.heap.size w w':=by
 have HR:=Lib.hid (fun W (hW:Below w.heap.size w W)=>show_good8 W ⟨r.name.toArray⟩ cv r.cols (h.keep hW) hk)
 have hn0:(⟨r.name.toArray⟩:ByteArray).data.toList=r.name:=rfl
 rw[hn0] at HR
 have hl:=show_len hk
 rw[txtRel_eq hk]
 obtain⟨o1,l1,rfl,_,_⟩:=h.form
 generalize showC r.name r.cols=S at *
 obtain⟨s0,S,rfl⟩:∃ s0 S',S=s0::S':=by
  cases S with
  | nil=>simp at hl
  | cons a l=>exact⟨a,l,rfl⟩
 have hne:((⟨(s0::S).toArray⟩:ByteArray).toList == [])=false:=by rw[ByteArray.toList_eq];simp
 have hne2:((⟨(s0::S).toArray⟩:ByteArray).toList.isEmpty)=false:=by rw[ByteArray.toList_eq];simp
 generalize hS:(⟨(s0::S).toArray⟩:ByteArray)=sb at *
 have hss:sb.size<=16384:=by rw[<-hS];simpa [ByteArray.size] using hl.2
 have v1:¬ 9223372036854775807<4+sb.size:=by omega
 have v2:¬ 9223372036854775807<3+1+sb.size:=by omega
 have HS:=Lib.hid hS
 generalize r.cols.length=n1 at *
 generalize (⟨r.name.toArray⟩:ByteArray)=x1 at *
 have hb0:Below w.heap.size w (w.alloc (.cells #[.int .i64 1,.string x1,.slice o1 n1 l1,.string ⟨#[]⟩,.slice none 0 0,.slice none 0 0,.slice none 0 0,.string ⟨#[]⟩,.int .i64 0,.int .i64 0,.slice none 0 0] 61)):=balloc (Below.refl _ _) _
 have hbx:=Blk.new w 61 #[.int .i64 1,.string x1,.slice o1 n1 l1,.string ⟨#[]⟩,.slice none 0 0,.slice none 0 0,.slice none 0 0,.string ⟨#[]⟩,.int .i64 0,.int .i64 0,.slice none 0 0]
 obtain⟨W0,hW0⟩:∃ W0,w.alloc (.cells #[.int .i64 1,.string x1,.slice o1 n1 l1,.string ⟨#[]⟩,.slice none 0 0,.slice none 0 0,.slice none 0 0,.string ⟨#[]⟩,.int .i64 0,.int .i64 0,.slice none 0 0] 61)=W0:=⟨_,rfl⟩
 rw[hW0] at hb0 hbx
 have hg0:=hg.below hb0
 have kw:=hg0.v.cell 1
 rw[word1] at kw
 have kl:=hg0.v.lt
 have x0:=hbx.cell 0
 have y1:=hbx.cell 1
 have y2:=hbx.cell 2
 have xl:=hbx.lt
 simp only[List.getElem?_toArray,List.getElem?_cons_zero,List.getElem?_cons_succ] at x0 y1 y2
 have HB0:=Lib.hid hb0
 have HW0:=Lib.hid hW0
 clear h hk hn0 hl hS hb0 hbx hg0 hW0 hg
 go_enter Tryz.func23,Tryz.ntmps23
 go_upto_region 1 with fail
 rw[HW0.out]
 go_wp2_with (go_at_call 68;refine (HR.out _ HB0.out).mono ?_;rintro e w' ⟨rfl,hb'⟩)
 go_ret
 refine⟨congrArg (fun x=>Ending.returned (.string x)) (bytes_of ?_),HB0.out.trans (hb'.mono HB0.out.size)⟩
 rw[<-HS.out]
 simp
set_option maxHeartbeats 4000000 in
set_option maxRecDepth 100000 in
theorem viewText_ok (w:World) (q:Qry) (hv av:Value) (h:StrsAt w hv q.head) (h2:AtomsAt w av q.atoms) (hb:QryB q) (hk:chkQ q=0) (hg:GlobW w) :
 Calls Tryz.prog 23 #[.agg #[.int .i64 2,.string ⟨#[]⟩,.slice none 0 0,.string ⟨q.name.toArray⟩,hv,av,.slice none 0 0,.string ⟨#[]⟩,.int .i64 0,.int .i64 0,.slice none 0 0]] w fun e w'=>e=.returned (.string ⟨(txtView q).toArray⟩)/\Below w.heap.size w w':=by
 have hrng:RangeQ q:=fun a ha t ht=>((hb.each a ha).2 t ht).1
 have HR:=Lib.hid (fun W (hW:Below w.heap.size w W)=>qshow_good W ⟨q.name.toArray⟩ hv av q.head q.atoms (RowAt.keep h hW) (h2.keep hW) (chkQ_right hk) hrng (hg.g.below hW))
 have hn0:qT ⟨(⟨q.name.toArray⟩:ByteArray).data.toList,q.head,q.atoms⟩=qT q:=rfl
 rw[hn0] at HR
 have hl:=qT_len (chkQ_right hk) hrng
 have hqT:showQ q=qT q:=by unfold showQ;rw[if_pos hk]
 rw[txtView_eq hk,hqT]
 obtain⟨o1,l1,rfl,_,_⟩:=h.form
 obtain⟨o2,l2,rfl,_,_⟩:=h2.form
 obtain⟨hl1,hl2,_⟩:=hl
 generalize qT q=S at *
 obtain⟨s0,S,rfl⟩:∃ s0 S',S=s0::S':=by
  cases S with
  | nil=>simp at hl1
  | cons a l=>exact⟨a,l,rfl⟩
 have hne:((⟨(s0::S).toArray⟩:ByteArray).toList == [])=false:=by rw[ByteArray.toList_eq];simp
 have hne2:((⟨(s0::S).toArray⟩:ByteArray).toList.isEmpty)=false:=by rw[ByteArray.toList_eq];simp
 generalize hS:(⟨(s0::S).toArray⟩:ByteArray)=sb at *
 have hss:sb.size<=16384:=by rw[<-hS];simpa [ByteArray.size] using hl2
 have v1:¬ 9223372036854775807<5+sb.size:=by omega
 have v2:¬ 9223372036854775807<4+1+sb.size:=by omega
 have HS:=Lib.hid hS
 try simp only[List.length_map] at HR ⊢
 generalize q.head.length=n1 at *
 generalize q.atoms.length=n2 at *
 generalize (⟨q.name.toArray⟩:ByteArray)=x1 at *
 have hb0:Below w.heap.size w (w.alloc (.cells #[.int .i64 2,.string ⟨#[]⟩,.slice none 0 0,.string x1,.slice o1 n1 l1,.slice o2 n2 l2,.slice none 0 0,.string ⟨#[]⟩,.int .i64 0,.int .i64 0,.slice none 0 0] 61)):=balloc (Below.refl _ _) _
 have hbx:=Blk.new w 61 #[.int .i64 2,.string ⟨#[]⟩,.slice none 0 0,.string x1,.slice o1 n1 l1,.slice o2 n2 l2,.slice none 0 0,.string ⟨#[]⟩,.int .i64 0,.int .i64 0,.slice none 0 0]
 obtain⟨W0,hW0⟩:∃ W0,w.alloc (.cells #[.int .i64 2,.string ⟨#[]⟩,.slice none 0 0,.string x1,.slice o1 n1 l1,.slice o2 n2 l2,.slice none 0 0,.string ⟨#[]⟩,.int .i64 0,.int .i64 0,.slice none 0 0] 61)=W0:=⟨_,rfl⟩
 rw[hW0] at hb0 hbx
 have hg0:=hg.below hb0
 have kw:=hg0.v.cell 2
 rw[word2] at kw
 have kl:=hg0.v.lt
 have x0:=hbx.cell 0
 have y3:=hbx.cell 3
 have y4:=hbx.cell 4
 have y5:=hbx.cell 5
 have xl:=hbx.lt
 simp only[List.getElem?_toArray,List.getElem?_cons_zero,List.getElem?_cons_succ] at x0 y3 y4 y5
 have HB0:=Lib.hid hb0
 have HW0:=Lib.hid hW0
 clear h h2 hb hk hn0 hrng hqT hl1 hl2 hS hb0 hbx hg0 hW0 hg
 go_enter Tryz.func23,Tryz.ntmps23
 go_upto_region 1 with fail
 rw[HW0.out]
 go_wp2_with (go_at_call 69;refine (HR.out _ HB0.out).mono ?_;rintro e w' ⟨rfl,hb'⟩)
 go_ret
 refine⟨congrArg (fun x=>Ending.returned (.string x)) (bytes_of ?_),HB0.out.trans (hb'.mono HB0.out.size)⟩
 rw[<-HS.out]
 simp
end Go.Proofs.YtgopfpjinohncaaGreatDoor
