/- change.fits, walked. -/
import Derived.Test.YtgopfpjinohncaaGreatDoorRxF
import Derived.Test.YtgopfpjinohncaaGreatDoorGhF
set_option maxHeartbeats 8000000
set_option maxRecDepth 100000
set_option linter.unusedVariables false
namespace Go.Proofs.YtgopfpjinohncaaGreatDoor
open Go.Proofs.Tryz
open Go.RowKit
def KG (bo cb o:Nat) (u:Vl) (ck:Int) (W0 W:World):Prop :=
 W.cell? ⟨bo,0,none⟩=some (.int .i64 u.k)/\W.cell? ⟨bo,1,none⟩=some (.int .i64 u.n)/\W.cell? ⟨bo,2,none⟩=some (.string ⟨u.t.toArray⟩)/\W.cell? ⟨cb,o,none⟩=some (.int .i64 ck)/\Below W0.heap.size W0 W
theorem KG.step {bo cb o:Nat} {u:Vl} {ck:Int} {W0 W W':World} (h:KG bo cb o u ck W0 W) (h1:bo<W0.heap.size) (h3:cb<W0.heap.size) (hb:Below W.heap.size W W'):KG bo cb o u ck W0 W':=by
 obtain⟨k0,k1,k2,k4,k5⟩:=h
 have hz:=k5.size
 exact⟨(hb.cell (p:=⟨bo,0,none⟩) (by simp only;omega)).trans k0,(hb.cell (p:=⟨bo,1,none⟩) (by simp only;omega)).trans k1,(hb.cell (p:=⟨bo,2,none⟩) (by simp only;omega)).trans k2,(hb.cell (p:=⟨cb,o,none⟩) (by simp only;omega)).trans k4,k5.trans (hb.mono hz)⟩
theorem yH (w:World) (rv cv:Value) (row:List Vl) (cols:List bd) (hrow:aj w rv 3 (row.map Vl.cells)) (hcols:aO w cv cols) :
 Calls prog 271 #[rv,cv] w fun e w'=>e=.returned (.bool (fL row cols))/\Below w.heap.size w w':=by
 have hnot:∀ (x:Bool) (w:World),(Op.unary .not (.bool x)).run prog w=.ok (.bool (!x)) w:=fun _ _=>rfl
 have hln:=hrow.len
 rw[List.length_map] at hln
 obtain⟨ra,rc,rfl,hrn,hrm⟩:=hrow.form
 obtain⟨ua,uc,rfl,hun,hum⟩:=hcols.form
 unfold maxLen at hrm hum
 rw[List.length_map] at *
 have HROW:=Fx hrow
 have HC1:=Fx hcols
 obtain⟨RES,hRES⟩:∃ RES,RES=fL row cols:=⟨_,rfl⟩
 rw[<-hRES]
 have HQ:=Fx hRES
 clear hrow hcols hRES
 generalize hN:row.length=n at *
 generalize hM:cols.length=cn at *
 have HN:=Fx hN
 have HM:=Fx hM
 clear hN hM
 by_cases hnc:n=cn
 ·subst hnc
  have hnn:((n:Int) != (n:Int))=false:=by simp
  go_enter func271,ntmps271
  go_wp2_with fail
  go_loopw [14] (fun i wr=>∃ j:Nat,j<=n/\i=.int .i64 j/\Hid (∀ (q:Nat) (u:Vl) (c:bd),q<j->row[q]? = some u->cols[q]? = some c->Dy u c=true)/\Hid (Below w.heap.size w wr)) (fun i _=>n - (intOf i).toNat)
  case atStart=>exact⟨0,Fz,rfl,Fx (fun q _ _ hq=>by omega),Fx Fy⟩
  case round =>
   obtain⟨j,hj,rfl,HP,BW⟩:=hrel
   obtain⟨wo,rfl⟩:∃ wo:World,wo=wr:=⟨_,rfl⟩
   by_cases hlt:j<n
   ·obtain⟨uu,hu⟩:∃ uu,row[j]? = some uu:=⟨row[j]'(by rw[HN.out];exact hlt),FD (by rw[HN.out];exact hlt)⟩
    obtain⟨c,hc⟩:∃ c,cols[j]? = some c:=⟨cols[j]'(by rw[HM.out];exact hlt),FD (by rw[HM.out];exact hlt)⟩
    obtain⟨vb,vo,vcap,hv,_,_,hvl,hce⟩:=(HROW.out.keep BW.out).get (i:=j) (x:=uu.cells) (by simp [hu])
    simp only[List.length_map,HN.out,Value.slice.injEq,true_and] at hv
    obtain⟨rfl,rfl⟩:=hv
    have q0:=hce 0 _ rfl
    have q1:=hce 1 _ rfl
    have q2:=hce 2 _ rfl
    simp only[Nat.add_zero] at q0
    obtain⟨cb,co,ccap,hcv,_,_,hcl,k0,k1⟩:=(aO.keep HC1.out BW.out).get hc
    simp only[HM.out,Value.slice.injEq,true_and] at hcv
    obtain⟨rfl,rfl⟩:=hcv
    have hvd:=fun W=>eV uu.k uu.n ⟨uu.t.toArray⟩ W
    obtain⟨vbl,hvb⟩:∃ vbl,ax uu.k uu.n uu.t=vbl:=⟨_,rfl⟩
    rw[show ax uu.k uu.n (⟨uu.t.toArray⟩:ByteArray).data.toList=vbl from hvb] at hvd
    have HVD:=Fx hvd
    have HVB:=Fx hvb
    have HU:=Fx hu
    have HC:=Fx hc
    have hdk:decide ((j:Int)<0)=false:=by simp
    have hdn:decide ((n:Int)<=(j:Int))=false:=by simp;omega
    obtain⟨WB,hWB⟩:∃ WB,wo.alloc (.cells #[.int .i64 uu.k,.int .i64 uu.n,.string ⟨uu.t.toArray⟩] 111)=WB:=⟨_,rfl⟩
    have hbk:Below wo.heap.size wo WB:=by rw[<-hWB];exact ae Fy _
    have hbb:af WB wo.heap.size 111 #[.int .i64 uu.k,.int .i64 uu.n,.string ⟨uu.t.toArray⟩]:=by rw[<-hWB];exact af.new _ _ _
    have hbz:wo.heap.size<=WB.heap.size:=hbk.size
    have b0:=hbb.cell 0
    have b1:=hbb.cell 1
    have b2:=hbb.cell 2
    have bl:=hbb.lt
    simp only[FF] at b0 b1 b2
    have k1b:=(hbk.cell (p:=⟨cb,co+j * 2+1,none⟩) hcl).trans k1
    have clb:cb<WB.heap.size:=Nat.lt_of_lt_of_le hcl hbz
    have hbW:=Below.refl WB.heap.size WB
    have HKV:Hid (∀ W,KG wo.heap.size cb (co+j * 2+1) uu c.k WB W->Calls prog 157 #[.agg #[.int .i64 uu.k,.int .i64 uu.n,.string ⟨uu.t.toArray⟩]] W fun e w'=>e=.returned (.bool vbl)/\KG wo.heap.size cb (co+j * 2+1) uu c.k WB w') :=
     Fx fun W h=>(HVD.out W).mono fun e w' hh=>⟨hh.1,by rw[hh.2];exact h.step bl clb (ae Fy _)⟩
    unfold KG at HKV
    have HBK:=Fx (BW.out.trans (hbk.mono BW.out.size))
    have HWB:=Fx hWB
    clear hce hvd hvb hu hc hWB hbk hbb
    cases vbl with
    | false =>
      have hno:fL row cols=false:=wO HU.out HC.out (by unfold Dy;rw[HVB.out];rfl)
      have hq:=HQ.out
      rw[hno] at hq
      have HQ2:=Fx hq
      clear hno hq
      go_wp2_with fail
      rw[HWB.out]
      first
       | go_region_with ((go_at_call 157;refine (HVD.out _).mono ?_;rintro e w8 ⟨rfl,rfl⟩))
       | fail "no way"
      all_goals
       go_wp2_with fail
       go_ret
       exact⟨by rw[HQ2.out];rfl,HBK.out.trans (Below.mono (ae (ay Fy) _) HBK.out.size)⟩
    | true =>
      by_cases hkk:uu.k=c.k
      ·have hd:(uu.k != c.k)=false:=by simp [hkk]
       have hok:Dy uu c=true:=by unfold Dy;rw[HVB.out,decide_eq_true hkk];rfl
       have HP2:Hid (∀ (q:Nat) (u:Vl) (c:bd),q<j+1->row[q]? = some u->cols[q]? = some c->Dy u c=true):=Fx (fun q u' c' hq h1 h2=>by
        rcases Nat.lt_or_eq_of_le (Nat.le_of_lt_succ hq) with h | rfl
        ·exact HP.out q u' c' h h1 h2
        ·rw[HU.out] at h1
         rw[HC.out] at h2
         simp only[Option.some.injEq] at h1 h2
         subst h1 h2
         exact hok)
       clear hkk hok
       go_wp2_with fail
       rw[HWB.out]
       go_region_held3 (fun w'=>w'.cell? ⟨wo.heap.size,0,none⟩=some (.int .i64 uu.k)/\w'.cell? ⟨wo.heap.size,1,none⟩=some (.int .i64 uu.n)/\w'.cell? ⟨wo.heap.size,2,none⟩=some (.string ⟨uu.t.toArray⟩)/\w'.cell? ⟨cb,co+j * 2+1,none⟩=some (.int .i64 c.k)/\Below WB.heap.size WB w')
        (first | exact hK | (go_split_ands;refine⟨?_,?_,?_,?_,?_⟩<;>first | exact ay (by assumption) | assumption | go_keep))
        (first | (go_at_call 157;go_split_ands;refine (HKV.out _ ⟨by assumption,by assumption,by assumption,by assumption,by assumption⟩).mono ?_;rintro e w' ⟨rfl,hK⟩))
       all_goals go_split_ands
       all_goals
        go_wp2_with fail
        go_roundw
        case rel=>exact⟨j+1,by omega,by go_num,HP2,Fx (HBK.out.trans (Below.mono (by assumption) HBK.out.size))⟩
        case measure=>simp [intOf];omega
      ·have hd:(uu.k != c.k)=true:=by simpa using hkk
       have hno:fL row cols=false:=wO HU.out HC.out (by unfold Dy;rw[decide_eq_false hkk,Bool.and_false])
       have hq:=HQ.out
       rw[hno] at hq
       have HQ2:=Fx hq
       clear hno hq hkk
       go_wp2_with fail
       rw[HWB.out]
       go_region_held3 (fun w'=>w'.cell? ⟨wo.heap.size,0,none⟩=some (.int .i64 uu.k)/\w'.cell? ⟨wo.heap.size,1,none⟩=some (.int .i64 uu.n)/\w'.cell? ⟨wo.heap.size,2,none⟩=some (.string ⟨uu.t.toArray⟩)/\w'.cell? ⟨cb,co+j * 2+1,none⟩=some (.int .i64 c.k)/\Below WB.heap.size WB w')
        (first | exact hK | (go_split_ands;refine⟨?_,?_,?_,?_,?_⟩<;>first | exact ay (by assumption) | assumption | go_keep))
        (first | (go_at_call 157;go_split_ands;refine (HKV.out _ ⟨by assumption,by assumption,by assumption,by assumption,by assumption⟩).mono ?_;rintro e w' ⟨rfl,hK⟩))
       all_goals go_split_ands
       all_goals
        go_wp2_with fail
        go_ret
        exact⟨by rw[HQ2.out];rfl,HBK.out.trans (Below.mono (by assumption) HBK.out.size)⟩
   ·obtain rfl:j=n:=by omega
    have hyes:fL row cols=true:=Cd (by rw[HN.out,HM.out]) (fun q u c h1 h2=>HP.out q u c (by rw[<-HN.out];exact (FE h1).1) h1 h2)
    have hq:=HQ.out
    rw[hyes] at hq
    have HQ2:=Fx hq
    clear hyes hq
    go_wp2_with fail
    go_ret
    exact⟨by rw[HQ2.out];rfl,BW.out⟩
 ·have hd:((n:Int) != (cn:Int))=true:=by simpa using fun e=>hnc (by omega)
  have hq:=HQ.out
  rw[zJ (by rw[HN.out,HM.out];exact hnc)] at hq
  have HQ2:=Fx hq
  clear hq hnc
  go_enter func271,ntmps271
  go_wp2_with fail
  go_ret
  exact⟨by rw[HQ2.out];rfl,Below.refl _ _⟩
theorem ju (g:Nat) (lb:Array Value) (eg:∀ args w,(callFunc g args).run prog w=.ok (.enter g args) w) (p:List Value->Bool) (w:World) (v:Value) (xs:List (List Value)) (h:aj w v 2 xs) (hl:∀ x∈xs,x.length=2)
 (hf:∀ (W:World) (x:List Value),Below w.heap.size w W->x∈xs->Calls prog g (#[.agg x.toArray]++lb) W fun e W'=>e=.returned (.bool (p x))/\Below W.heap.size W W') :
 Calls prog 82 #[v,.func (.func g) #[] lb] w fun e w'=>e=.returned (.int .i64 (hC p xs))/\Below w.heap.size w w':=by
 obtain⟨ad,cap,rfl,hnc,hcm⟩:=h.form
 have hln:=h.len
 have HR:=Fx h
 have HL:=Fx hl
 have HF:=Fx hf
 unfold maxLen at hcm
 generalize hn:xs.length=n at *
 have HN:=Fx hn
 clear h hl hf hn
 go_enter func82,ntmps82
 go_wp2_with fail
 go_loopw [5,8] (fun _ i wr=>∃ k:Nat,k<=n/\i=.int .i64 k/\Hid (Below w.heap.size w wr)/\Hid (∀ x∈xs.take k,p x=false)) (fun _ i _=>n - (intOf i).toNat)
 case atStart=>exact⟨0,Fz,rfl,Fx Fy,Fx (by simp)⟩
 case round =>
  obtain⟨k,hk,rfl,HB,HP⟩:=hrel
  by_cases hlt:k<n
  ·obtain⟨x,hx⟩:∃ x,xs[k]? = some x:=⟨xs[k]'(by rw[HN.out];exact hlt),FD (by rw[HN.out];exact hlt)⟩
   have hm:x∈xs:=FC hx
   obtain⟨b,off,cap',hv,_,_,hbl,hce⟩:=(HR.out.keep HB.out).get hx
   rw[HN.out] at hv
   simp only[Value.slice.injEq,true_and] at hv
   obtain⟨rfl,rfl⟩:=hv
   obtain⟨e0,e1,rfl⟩:=mw (HL.out x hm)
   have q0:=hce 0 e0 rfl
   have q1:=hce 1 e1 rfl
   simp only[Nat.add_zero] at q0 q1
   have hcall:=HF.out wr _ HB.out hm
   have HX:=Fx hx
   clear hce hm hx
   cases hq:p [e0,e1] with
   | true =>
     rw[hq] at hcall
     have HC:=Fx hcall
     have HQ:=Fx hq
     clear hcall hq
     go_wp2_with fail
     refine HC.out.mono ?_
     rintro e w' ⟨rfl,hb'⟩
     have HB':=Fx hb'
     clear hb'
     go_wp2_with fail
     go_ret
     refine⟨?_,HB.out.trans (HB'.out.mono HB.out.size)⟩
     rw[kq HX.out HQ.out HP.out]
     rfl
   | false =>
     rw[hq] at hcall
     have HC:=Fx hcall
     have HQ:=Fx hq
     clear hcall hq
     go_wp2_with fail
     refine HC.out.mono ?_
     rintro e w' ⟨rfl,hb'⟩
     have HB':=Fx hb'
     clear hb'
     go_wp2_with fail
     go_roundw
     case rel =>
      refine⟨k+1,by omega,by go_num,Fx (HB.out.trans (HB'.out.mono HB.out.size)),Fx ?_⟩
      rw[List.take_add_one,HX.out]
      intro y hy
      simp at hy
      rcases hy with hy | rfl
      ·exact HP.out y hy
      ·exact HQ.out
     case measure=>simp [intOf];omega
  ·obtain rfl:k=n:=by omega
   go_wp2_with fail
   go_ret
   refine⟨?_,HB.out⟩
   have hp:=HP.out
   rw[List.take_of_length_le (by rw[HN.out];exact FA)] at hp
   rw[iR hp]
   rfl
def EJ (nm:List UInt8) (x:List Value):Bool:=match x with
 | .string s::_=>s.data.toList == nm
 | _=>false
theorem xr (W:World) (bx:Nat) (add:Bool) (nm:List UInt8) (rv:Value) (s:ByteArray) (cv:Value) (hx:af W bx 68 #[.bool add,.string ⟨nm.toArray⟩,rv]) :
 Calls prog 270 #[.agg #[.string s,cv],.pointer (some ⟨bx,0,none⟩)] W fun e w'=>e=.returned (.bool (s.data.toList == nm))/\Below W.heap.size W w':=by
 have x1:=hx.cell 1
 have xl:=hx.lt
 simp only[FF] at x1
 have hb0:Below W.heap.size W (W.alloc (.cells #[.string s,cv] 57)):=ae Fy _
 have HB0:=Fx hb0
 obtain⟨l⟩:=s
 obtain⟨l⟩:=l
 have hsd:(⟨⟨l⟩⟩:ByteArray).data.toList=l:=rfl
 rw[hsd]
 have HX:=Fx hx
 clear hx hb0 hsd
 go_enter func270,ntmps270
 go_wp2_with fail
 go_ret
 exact⟨by first | rfl | simp,HB0.out⟩
theorem wX {w:World} {nm:List UInt8}:∀ {rows:List (List Value)} {d:List aU},aH (qA w) rows d->rows.findIdx? (EJ nm)=(d.map (·.name)).findIdx? (· == nm)
 | [],[],_=>rfl
 | c::rows,r::d,h=>by
   obtain⟨cv,rfl,_⟩:=h.1
   rw[List.map_cons,List.findIdx?_cons,List.findIdx?_cons,wX h.2]
   simp [EJ]
 | [],_::_,h=>h.elim
 | _::_,[],h=>h.elim
theorem pC (x:List UInt8):∀ l:List (List UInt8),(match l.findIdx? (· == x) with | some i=>(i:Int) | none => -1)=iE l x
 | []=>by simp [iE]
 | a::l=>by
   have ih:=pC x l
   unfold iE at ih ⊢
   rw[List.findIdx?_cons]
   by_cases h:a=x
   ·subst h
    simp
   ·have hb:(a == x)=false:=by simpa using h
    have hx:(x∈a::l)=(x∈l):=by simp [Ne.symm h]
    have hi:List.idxOf x (a::l)=List.idxOf x l+1:=by rw[List.idxOf_cons,hb];rfl
    rw[hb,hi]
    simp only[Bool.false_eq_true,if_false,hx]
    cases hf:l.findIdx? (· == x) with
    | none =>
      rw[hf] at ih
      have ih':(-1:Int)=if x∈l then (List.idxOf x l:Int) else -1:=ih
      by_cases hm:x∈l
      ·rw[if_pos hm] at ih'
       omega
      ·rw[if_neg hm]
       rfl
    | some i =>
      rw[hf] at ih
      have ih':(i:Int)=if x∈l then (List.idxOf x l:Int) else -1:=ih
      by_cases hm:x∈l
      ·rw[if_pos hm] at ih' ⊢
       show ((i+1:Nat):Int)=_
       omega
      ·rw[if_neg hm] at ih'
       omega
theorem rG {w:World} {nm:List UInt8} {rows:List (List Value)} {d:List aU} (h:aH (qA w) rows d):hC (EJ nm) rows=oB d nm:=by
 unfold hC oB
 rw[wX h]
 exact pC nm _
theorem yR (W:World) (v:Value) (d:List aU) (h:bj W v d) (bx:Nat) (add:Bool) (nm:List UInt8) (rv:Value) (hx:af W bx 68 #[.bool add,.string ⟨nm.toArray⟩,rv]) :
 Calls prog 82 #[v,.func (.func 270) #[] #[.pointer (some ⟨bx,0,none⟩)]] W fun e w'=>e=.returned (.int .i64 (oB d nm))/\Below W.heap.size W w':=by
 obtain⟨rows,h1,h2⟩:=h
 have hix:=ju 270 #[.pointer (some ⟨bx,0,none⟩)] (enters_of func270 (by kernel_rfl) rfl) (EJ nm) W v rows h1 (fun x hx=>by
  obtain⟨r,_,cv,rfl,_⟩:=bm h2 x hx
  rfl) (fun W' x hW hxm=>by
  obtain⟨r,_,cv,rfl,_⟩:=bm h2 x hxm
  exact xr W' bx add nm rv ⟨r.name.toArray⟩ cv (hx.below hW hx.lt))
 rw[rG h2] at hix
 exact hix
theorem wt (w:World) (bv dv:Value) (b:List eP) (d:List aU) (hb:cU w bv b) (hd:bj w dv d) :
 Calls prog 237 #[bv,dv] w fun e w'=>e=.returned (.tuple #[.int .i64 (nG b d).1,.int .i64 (nG b d).2])/\Below w.heap.size w w':=by
 have hmf:∀ (fn:Fn) (first cap:Array Value) (w:World),(Instr.makeFunc fn first cap).run prog w=.ok (.func fn first cap) w:=fun _ _ _ _=>rfl
 have hnot:∀ (x:Bool) (w:World),(Op.unary .not (.bool x)).run prog w=.ok (.bool (!x)) w:=fun _ _=>rfl
 obtain⟨ba,bc,rfl,hbn,hbm⟩:=hb.form
 obtain⟨da,dc,rfl,hdn',hdm⟩:=hd.form
 have hlb:=hb.len
 have hld:=hd.len
 unfold maxLen at hbm hdm
 have HB:=Fx hb
 have HD:=Fx hd
 obtain⟨RES,hRES⟩:∃ RES,RES=nG b d:=⟨_,rfl⟩
 rw[<-hRES]
 have HQ:=Fx hRES
 clear hb hd hRES
 generalize hN:b.length=n at *
 generalize hM:d.length=dn at *
 have HN:=Fx hN
 have HM:=Fx hM
 clear hN hM
 by_cases hmany:256<n
 ·have hdd:(256:Int)<(n:Int):=by omega
  have hq:RES=(0,100):=by
   rw[HQ.out]
   unfold nG
   rw[if_pos (by rw[HN.out];exact hmany)]
  subst hq
  go_enter func237,ntmps237
  go_wp2_with fail
  go_ret2
  exact⟨rfl,Below.refl _ _⟩
 ·have hdd:¬ ((256:Int)<(n:Int)):=by omega
  have hq:RES=C2 d b 0:=by
   rw[HQ.out]
   unfold nG
   rw[if_neg (by rw[HN.out];exact hmany)]
  have HQ2:=Fx hq
  clear hq hmany
  go_enter func237,ntmps237
  go_wp2_with fail
  go_loopw [14] (fun i wr=>∃ j:Nat,j<=n/\i=.int .i64 j/\Hid (RES=C2 d (b.drop j) j)/\Hid (Below w.heap.size w wr)) (fun i _=>n - (intOf i).toNat)
  case atStart=>exact⟨0,Fz,rfl,Fx (by rw[HQ2.out];rfl),Fx Fy⟩
  case round =>
   obtain⟨j,hj,rfl,HP,BW⟩:=hrel
   obtain⟨wo,rfl⟩:∃ wo:World,wo=wr:=⟨_,rfl⟩
   by_cases hlt:j<n
   ·obtain⟨c,hc⟩:∃ c,b[j]? = some c:=⟨b[j]'(by rw[HN.out];exact hlt),FD (by rw[HN.out];exact hlt)⟩
    obtain⟨b1,o1,c1,rv,hv1,_,_,hl1,q0,q1,q2,hr1,_⟩:=(HB.out.keep BW.out).get hc
    rw[HN.out] at hv1
    simp only[Value.slice.injEq,true_and] at hv1
    obtain⟨rfl,rfl⟩:=hv1
    obtain⟨ra,rc,rfl,_,_⟩:=hr1.form
    have hdk:decide ((j:Int)<0)=false:=by simp
    have hdn:decide ((n:Int)<=(j:Int))=false:=by simp;omega
    have bk:Below wo.heap.size wo (wo.alloc (.cells #[.bool c.add,.string ⟨c.rel.toArray⟩,.slice ra (c.row.map Vl.cells).length rc] 68)):=ae Fy _
    have hbx:=af.new wo 68 #[.bool c.add,.string ⟨c.rel.toArray⟩,.slice ra (c.row.map Vl.cells).length rc]
    have hpl:=yR _ _ d ((HD.out.keep BW.out).keep bk) _ _ _ _ hbx
    have HPL:=Fx hpl
    have HBX:=Fx hbx
    have HBK:=Fx (BW.out.trans (bk.mono BW.out.size))
    have HDK:=Fx ((HD.out.keep BW.out).keep bk)
    have HRK:=Fx (hr1.keep bk)
    have HC:=Fx hc
    clear bk hbx hpl hr1 hc
    generalize (c.row.map Vl.cells).length=rn at *
    obtain⟨W1,hW1⟩:∃ W1,wo.alloc (.cells #[.bool c.add,.string ⟨c.rel.toArray⟩,.slice ra rn rc] 68)=W1:=⟨_,rfl⟩
    rw[hW1] at HPL HBX HBK HDK HRK
    have HW1:=Fx hW1
    clear hW1
    rcases pK d c.rel with hp | ⟨k,r,hp,hr,hrn⟩
    ·have hq:=HP.out
     rw[wG HC.out (by rw[pV hp];decide),pV hp] at hq
     subst hq
     rw[hp] at HPL
     clear hp
     go_wp2_with fail
     rw[HW1.out]
     refine HPL.out.mono ?_
     rintro e w6 ⟨rfl,hb6⟩
     have HB6:=Fx (HBK.out.trans (hb6.mono HBK.out.size))
     clear hb6
     go_wp2_with fail
     go_ret2
     exact⟨rfl,HB6.out⟩
    ·rw[hp] at HPL
     have hfd:=yk (row:=c.row) hp hr
     have hkl:=(FE hr).1
     rw[HM.out] at hkl
     have hk0:¬ ((k:Int)<0):=by omega
     have hdk2:decide ((k:Int)<0)=false:=by simp
     have hdn2:decide ((dn:Int)<=(k:Int))=false:=by simp;omega
     have HFD:=Fx hfd
     have HRR:=Fx hr
     clear hp hfd hr
     go_wp2_with fail
     rw[HW1.out]
     refine HPL.out.mono ?_
     rintro e w6 ⟨rfl,hb6⟩
     obtain⟨db,d_o,dcap,cv,hdv,_,_,hdl,_,k1,hcols,_⟩:=(HDK.out.keep hb6).get HRR.out
     rw[HM.out] at hdv
     simp only[Value.slice.injEq,true_and] at hdv
     obtain⟨rfl,rfl⟩:=hdv
     obtain⟨ca,cc,rfl,_,_⟩:=hcols.form
     have hx6:=HBX.out.below hb6 HBX.out.lt
     have x2:=hx6.cell 2
     have xl:=hx6.lt
     simp only[FF] at x2
     have hft:=fun W (hW:Below w6.heap.size w6 W)=>yH W _ _ c.row r.cols ((HRK.out.keep hb6).keep hW) (aO.keep hcols hW)
     have HFT:=Fx hft
     have HB6:=Fx (HBK.out.trans (hb6.mono HBK.out.size))
     clear hb6 hcols hx6 hft
     generalize r.cols.length=cn at *
     cases hfb:fL c.row r.cols with
     | true =>
       have hq:=HP.out
       rw[B9 HC.out (by rw[HFD.out,hfb];rfl)] at hq
       have HP2:=Fx hq
       rw[hfb] at HFT
       clear hq
       go_wp2_with fail
       first
        | go_region_law (go_simp;go_at_call 271;refine (HFT.out _ (ay Fy)).mono ?_;rintro e w8 ⟨rfl,hb8⟩;have HB8:=Fx (dZ (ay Fy) hb8);clear hb8)
        | fail "no way"
       all_goals
        go_wp2_with fail
        go_roundw
        case rel=>exact⟨j+1,by omega,by go_num,HP2,Fx (HB6.out.trans (Below.mono HB8.out HB6.out.size))⟩
        case measure=>simp [intOf];omega
     | false =>
       have hq:=HP.out
       rw[wG HC.out (by rw[HFD.out,hfb];decide),HFD.out,hfb,if_neg (by decide)] at hq
       subst hq
       rw[hfb] at HFT
       go_wp2_with fail
       first
        | go_region_law (go_simp;go_at_call 271;refine (HFT.out _ (ay Fy)).mono ?_;rintro e w8 ⟨rfl,hb8⟩;have HB8:=Fx (dZ (ay Fy) hb8);clear hb8)
        | fail "no way"
       all_goals
        go_wp2_with fail
        go_ret2
        exact⟨rfl,HB6.out.trans (Below.mono HB8.out HB6.out.size)⟩
   ·obtain rfl:j=n:=by omega
    have hq:=HP.out
    rw[List.drop_eq_nil_of_le (by rw[HN.out];exact FA)] at hq
    have hq':RES=(0,0):=hq
    subst hq'
    go_wp2_with fail
    go_ret2
    exact⟨rfl,BW.out⟩
