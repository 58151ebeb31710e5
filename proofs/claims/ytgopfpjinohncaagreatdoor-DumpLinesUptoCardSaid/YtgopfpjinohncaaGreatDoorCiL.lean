/- change.fits, walked. slices.IndexFunc at osier/api.Relation, walked (printed by idx.py). change.Check, walked. osierref08.Place, walked. A region that draws its order: operations that are not wanted, or that yield in whatever world, taken first, many in one step: no program in sight. osierref08.Fits, walked (draft: not built). -/
import Derived.Test.YtgopfpjinohncaaGreatDoorRxL
import Derived.Test.YtgopfpjinohncaaGreatDoorLbL
import Derived.Test.YtgopfpjinohncaaGreatDoorGbL
import Derived.Test.YtgopfpjinohncaaGreatDoorGlL
import Derived.Test.YtgopfpjinohncaaGreatDoorGhL
import Derived.Test.YtgopfpjinohncaaGreatDoorJyL
import Derived.Test.YtgopfpjinohncaaGreatDoorLeL
import Derived.Test.YtgopfpjinohncaaGreatDoorShelfZL
import Derived.Deep.RegionHeld3
import Derived.Deep.RegionWith
import Derived.Shelf.Abstract
import Derived.Deep.RegionLaw
namespace Go.Proofs.YtgopfpjinohncaaGreatDoor
open Go.RowKit
set_option linter.unusedVariables false
def KG (bo cb o:Nat) (u:Vl) (ck:Int) (W0 W:World):Prop :=
 W.cell? ⟨bo,0,none⟩=some (.int .i64 u.k)/\W.cell? ⟨bo,1,none⟩=some (.int .i64 u.n)/\W.cell? ⟨bo,2,none⟩=some (.string ⟨u.t.toArray⟩)/\W.cell? ⟨cb,o,none⟩=some (.int .i64 ck)/\Below W0.heap.size W0 W
theorem KG.step {bo cb o:Nat} {u:Vl} {ck:Int} {W0 W W':World} (h:KG bo cb o u ck W0 W) (h1:bo<W0.heap.size) (h3:cb<W0.heap.size) (hb:Below W.heap.size W W'):KG bo cb o u ck W0 W':=by
 obtain⟨k0,k1,k2,k4,k5⟩:=h
 have hz:=k5.size
 exact⟨(hb.cell (p:=⟨bo,0,none⟩) (by simp only;omega)).trans k0,(hb.cell (p:=⟨bo,1,none⟩) (by simp only;omega)).trans k1,(hb.cell (p:=⟨bo,2,none⟩) (by simp only;omega)).trans k2,(hb.cell (p:=⟨cb,o,none⟩) (by simp only;omega)).trans k4,k5.trans (hb.mono hz)⟩
set_option maxHeartbeats 8000000 in
set_option maxRecDepth 100000 in
theorem cfits_any (w:World) (rv cv:Value) (row:List Vl) (cols:List Col) (hrow:RowAt w rv 3 (row.map Vl.cells)) (hcols:ColsAt w cv cols) :
 Calls Tryz.prog 271 #[rv,cv] w fun e w'=>e=.returned (.bool (fitsB row cols))/\Below w.heap.size w w':=by
 have hnot:∀ (x:Bool) (w:World),(Op.unary .not (.bool x)).run Tryz.prog w=.ok (.bool (!x)) w:=fun _ _=>rfl
 have hln:=hrow.len
 rw[List.length_map] at hln
 obtain⟨ra,rc,rfl,hrn,hrm⟩:=hrow.form
 obtain⟨ua,uc,rfl,hun,hum⟩:=hcols.form
 unfold maxLen at hrm hum
 rw[List.length_map] at *
 have HROW:=Lib.hid hrow
 have HC1:=Lib.hid hcols
 obtain⟨RES,hRES⟩:∃ RES,RES=fitsB row cols:=⟨_,rfl⟩
 rw[<-hRES]
 have HQ:=Lib.hid hRES
 clear hrow hcols hRES
 generalize hN:row.length=n at *
 generalize hM:cols.length=cn at *
 have HN:=Lib.hid hN
 have HM:=Lib.hid hM
 clear hN hM
 by_cases hnc:n=cn
 ·subst hnc
  have hnn:((n:Int) != (n:Int))=false:=by simp
  go_enter Tryz.func271,Tryz.ntmps271
  go_wp2_with fail
  go_loopw [14] (fun i wr=>∃ j:Nat,j<=n/\i=.int .i64 j/\Hid (∀ (q:Nat) (u:Vl) (c:Col),q<j->row[q]? = some u->cols[q]? = some c->okF u c=true)/\Hid (Below w.heap.size w wr)) (fun i _=>n - (intOf i).toNat)
  case atStart=>exact⟨0,Nat.zero_le _,rfl,Lib.hid (fun q _ _ hq=>by omega),Lib.hid (Below.refl _ _)⟩
  case round =>
   obtain⟨j,hj,rfl,HP,BW⟩:=hrel
   obtain⟨wo,rfl⟩:∃ wo:World,wo=wr:=⟨_,rfl⟩
   by_cases hlt:j<n
   ·obtain⟨uu,hu⟩:∃ uu,row[j]? = some uu:=⟨row[j]'(by rw[HN.out];exact hlt),List.getElem?_eq_getElem (by rw[HN.out];exact hlt)⟩
    obtain⟨c,hc⟩:∃ c,cols[j]? = some c:=⟨cols[j]'(by rw[HM.out];exact hlt),List.getElem?_eq_getElem (by rw[HM.out];exact hlt)⟩
    obtain⟨vb,vo,vcap,hv,_,_,hvl,hce⟩:=(HROW.out.keep BW.out).get (i:=j) (x:=uu.cells) (by simp [hu])
    simp only[List.length_map,HN.out,Value.slice.injEq,true_and] at hv
    obtain⟨rfl,rfl⟩:=hv
    have q0:=hce 0 _ rfl
    have q1:=hce 1 _ rfl
    have q2:=hce 2 _ rfl
    simp only[Nat.add_zero] at q0
    obtain⟨cb,co,ccap,hcv,_,_,hcl,k0,k1⟩:=(ColsAt.keep HC1.out BW.out).get hc
    simp only[HM.out,Value.slice.injEq,true_and] at hcv
    obtain⟨rfl,rfl⟩:=hcv
    have hvd:=fun W=>valid_any uu.k uu.n ⟨uu.t.toArray⟩ W
    obtain⟨vbl,hvb⟩:∃ vbl,validB uu.k uu.n uu.t=vbl:=⟨_,rfl⟩
    rw[show validB uu.k uu.n (⟨uu.t.toArray⟩:ByteArray).data.toList=vbl from hvb] at hvd
    have HVD:=Lib.hid hvd
    have HVB:=Lib.hid hvb
    have HU:=Lib.hid hu
    have HC:=Lib.hid hc
    have hdk:decide ((j:Int)<0)=false:=by simp
    have hdn:decide ((n:Int)<=(j:Int))=false:=by simp;omega
    obtain⟨WB,hWB⟩:∃ WB,wo.alloc (.cells #[.int .i64 uu.k,.int .i64 uu.n,.string ⟨uu.t.toArray⟩] 111)=WB:=⟨_,rfl⟩
    have hbk:Below wo.heap.size wo WB:=by rw[<-hWB];exact balloc (Below.refl _ _) _
    have hbb:Blk WB wo.heap.size 111 #[.int .i64 uu.k,.int .i64 uu.n,.string ⟨uu.t.toArray⟩]:=by rw[<-hWB];exact Blk.new _ _ _
    have hbz:wo.heap.size<=WB.heap.size:=hbk.size
    have b0:=hbb.cell 0
    have b1:=hbb.cell 1
    have b2:=hbb.cell 2
    have bl:=hbb.lt
    simp only[List.getElem?_toArray,List.getElem?_cons_zero,List.getElem?_cons_succ] at b0 b1 b2
    have k1b:=(hbk.cell (p:=⟨cb,co+j * 2+1,none⟩) hcl).trans k1
    have clb:cb<WB.heap.size:=Nat.lt_of_lt_of_le hcl hbz
    have hbW:=Below.refl WB.heap.size WB
    have HKV:Hid (∀ W,KG wo.heap.size cb (co+j * 2+1) uu c.k WB W->Calls Tryz.prog 157 #[.agg #[.int .i64 uu.k,.int .i64 uu.n,.string ⟨uu.t.toArray⟩]] W fun e w'=>e=.returned (.bool vbl)/\KG wo.heap.size cb (co+j * 2+1) uu c.k WB w') :=
     Lib.hid fun W h=>(HVD.out W).mono fun e w' hh=>⟨hh.1,by rw[hh.2];exact h.step bl clb (balloc (Below.refl _ _) _)⟩
    unfold KG at HKV
    have HBK:=Lib.hid (BW.out.trans (hbk.mono BW.out.size))
    have HWB:=Lib.hid hWB
    clear hce hvd hvb hu hc hWB hbk hbb
    cases vbl with
    | false =>
      have hno:fitsB row cols=false:=fits_no HU.out HC.out (by unfold okF;rw[HVB.out];rfl)
      have hq:=HQ.out
      rw[hno] at hq
      have HQ2:=Lib.hid hq
      clear hno hq
      go_wp2_with fail
      rw[HWB.out]
      first
       | go_region_with ((go_at_call 157;refine (HVD.out _).mono ?_;rintro e w8 ⟨rfl,rfl⟩))
       | fail "no way"
      all_goals
       go_wp2_with fail
       go_ret
       exact⟨by rw[HQ2.out];rfl,HBK.out.trans (Below.mono (balloc (bdrew (Below.refl _ _)) _) HBK.out.size)⟩
    | true =>
      by_cases hkk:uu.k=c.k
      ·have hd:(uu.k != c.k)=false:=by simp [hkk]
       have hok:okF uu c=true:=by unfold okF;rw[HVB.out,decide_eq_true hkk];rfl
       have HP2:Hid (∀ (q:Nat) (u:Vl) (c:Col),q<j+1->row[q]? = some u->cols[q]? = some c->okF u c=true):=Lib.hid (fun q u' c' hq h1 h2=>by
        rcases Nat.lt_or_eq_of_le (Nat.le_of_lt_succ hq) with h | rfl
        ·exact HP.out q u' c' h h1 h2
        ·rw[HU.out] at h1
         rw[HC.out] at h2
         simp only[Option.some.injEq] at h1 h2
         subst h1 h2
         exact hok)
       clear hkk hok
       go_wp2_with fail
       rw[HWB.out]
       go_region_held3 (fun w'=>w'.cell? ⟨wo.heap.size,0,none⟩=some (.int .i64 uu.k)/\w'.cell? ⟨wo.heap.size,1,none⟩=some (.int .i64 uu.n)/\w'.cell? ⟨wo.heap.size,2,none⟩=some (.string ⟨uu.t.toArray⟩)/\w'.cell? ⟨cb,co+j * 2+1,none⟩=some (.int .i64 c.k)/\Below WB.heap.size WB w')
        (first | exact hK | (go_split_ands;refine⟨?_,?_,?_,?_,?_⟩<;>first | exact bdrew (by assumption) | assumption | go_keep))
        (first | (go_at_call 157;go_split_ands;refine (HKV.out _ ⟨by assumption,by assumption,by assumption,by assumption,by assumption⟩).mono ?_;rintro e w' ⟨rfl,hK⟩))
       all_goals go_split_ands
       all_goals
        go_wp2_with fail
        go_roundw
        case rel=>exact⟨j+1,by omega,by go_num,HP2,Lib.hid (HBK.out.trans (Below.mono (by assumption) HBK.out.size))⟩
        case measure=>simp [intOf];omega
      ·have hd:(uu.k != c.k)=true:=by simpa using hkk
       have hno:fitsB row cols=false:=fits_no HU.out HC.out (by unfold okF;rw[decide_eq_false hkk,Bool.and_false])
       have hq:=HQ.out
       rw[hno] at hq
       have HQ2:=Lib.hid hq
       clear hno hq hkk
       go_wp2_with fail
       rw[HWB.out]
       go_region_held3 (fun w'=>w'.cell? ⟨wo.heap.size,0,none⟩=some (.int .i64 uu.k)/\w'.cell? ⟨wo.heap.size,1,none⟩=some (.int .i64 uu.n)/\w'.cell? ⟨wo.heap.size,2,none⟩=some (.string ⟨uu.t.toArray⟩)/\w'.cell? ⟨cb,co+j * 2+1,none⟩=some (.int .i64 c.k)/\Below WB.heap.size WB w')
        (first | exact hK | (go_split_ands;refine⟨?_,?_,?_,?_,?_⟩<;>first | exact bdrew (by assumption) | assumption | go_keep))
        (first | (go_at_call 157;go_split_ands;refine (HKV.out _ ⟨by assumption,by assumption,by assumption,by assumption,by assumption⟩).mono ?_;rintro e w' ⟨rfl,hK⟩))
       all_goals go_split_ands
       all_goals
        go_wp2_with fail
        go_ret
        exact⟨by rw[HQ2.out];rfl,HBK.out.trans (Below.mono (by assumption) HBK.out.size)⟩
   ·obtain rfl:j=n:=by omega
    have hyes:fitsB row cols=true:=fits_yes (by rw[HN.out,HM.out]) (fun q u c h1 h2=>HP.out q u c (by rw[<-HN.out];exact (List.getElem?_eq_some_iff.1 h1).1) h1 h2)
    have hq:=HQ.out
    rw[hyes] at hq
    have HQ2:=Lib.hid hq
    clear hyes hq
    go_wp2_with fail
    go_ret
    exact⟨by rw[HQ2.out];rfl,BW.out⟩
 ·have hd:((n:Int) != (cn:Int))=true:=by simpa using fun e=>hnc (by omega)
  have hq:=HQ.out
  rw[fits_len (by rw[HN.out,HM.out];exact hnc)] at hq
  have HQ2:=Lib.hid hq
  clear hq hnc
  go_enter Tryz.func271,Tryz.ntmps271
  go_wp2_with fail
  go_ret
  exact⟨by rw[HQ2.out];rfl,Below.refl _ _⟩
set_option maxHeartbeats 4000000 in
set_option maxRecDepth 100000 in
theorem indexFunc_Rel (g:Nat) (lb:Array Value) (eg:∀ args w,(callFunc g args).run Tryz.prog w=.ok (.enter g args) w) (p:List Value->Bool) (w:World) (v:Value) (xs:List (List Value)) (h:RowAt w v 2 xs) (hl:∀ x∈xs,x.length=2)
 (hf:∀ (W:World) (x:List Value),Below w.heap.size w W->x∈xs->Calls Tryz.prog g (#[.agg x.toArray]++lb) W fun e W'=>e=.returned (.bool (p x))/\Below W.heap.size W W') :
 Calls Tryz.prog 82 #[v,.func (.func g) #[] lb] w fun e w'=>e=.returned (.int .i64 (idxP p xs))/\Below w.heap.size w w':=by
 obtain⟨ad,cap,rfl,hnc,hcm⟩:=h.form
 have hln:=h.len
 have HR:=Lib.hid h
 have HL:=Lib.hid hl
 have HF:=Lib.hid hf
 unfold maxLen at hcm
 generalize hn:xs.length=n at *
 have HN:=Lib.hid hn
 clear h hl hf hn
 go_enter Tryz.func82,Tryz.ntmps82
 go_wp2_with fail
 go_loopw [5,8] (fun _ i wr=>∃ k:Nat,k<=n/\i=.int .i64 k/\Hid (Below w.heap.size w wr)/\Hid (∀ x∈xs.take k,p x=false)) (fun _ i _=>n - (intOf i).toNat)
 case atStart=>exact⟨0,Nat.zero_le _,rfl,Lib.hid (Below.refl _ _),Lib.hid (by simp)⟩
 case round =>
  obtain⟨k,hk,rfl,HB,HP⟩:=hrel
  by_cases hlt:k<n
  ·obtain⟨x,hx⟩:∃ x,xs[k]? = some x:=⟨xs[k]'(by rw[HN.out];exact hlt),List.getElem?_eq_getElem (by rw[HN.out];exact hlt)⟩
   have hm:x∈xs:=List.mem_of_getElem? hx
   obtain⟨b,off,cap',hv,_,_,hbl,hce⟩:=(HR.out.keep HB.out).get hx
   rw[HN.out] at hv
   simp only[Value.slice.injEq,true_and] at hv
   obtain⟨rfl,rfl⟩:=hv
   obtain⟨e0,e1,rfl⟩:=len2 (HL.out x hm)
   have q0:=hce 0 e0 rfl
   have q1:=hce 1 e1 rfl
   simp only[Nat.add_zero] at q0 q1
   have hcall:=HF.out wr _ HB.out hm
   have HX:=Lib.hid hx
   clear hce hm hx
   cases hq:p [e0,e1] with
   | true =>
     rw[hq] at hcall
     have HC:=Lib.hid hcall
     have HQ:=Lib.hid hq
     clear hcall hq
     go_wp2_with fail
     refine HC.out.mono ?_
     rintro e w' ⟨rfl,hb'⟩
     have HB':=Lib.hid hb'
     clear hb'
     go_wp2_with fail
     go_ret
     refine⟨?_,HB.out.trans (HB'.out.mono HB.out.size)⟩
     rw[idxP_hit HX.out HQ.out HP.out]
     rfl
   | false =>
     rw[hq] at hcall
     have HC:=Lib.hid hcall
     have HQ:=Lib.hid hq
     clear hcall hq
     go_wp2_with fail
     refine HC.out.mono ?_
     rintro e w' ⟨rfl,hb'⟩
     have HB':=Lib.hid hb'
     clear hb'
     go_wp2_with fail
     go_roundw
     case rel =>
      refine⟨k+1,by omega,by go_num,Lib.hid (HB.out.trans (HB'.out.mono HB.out.size)),Lib.hid ?_⟩
      rw[List.take_add_one,HX.out]
      intro y hy
      simp at hy
      rcases hy with hy | rfl
      ·exact HP.out y hy
      ·exact HQ.out
     case measure=>simp [intOf];omega
  ·obtain rfl:k=n:=by omega
   go_wp2_with fail
   go_ret
   refine⟨?_,HB.out⟩
   have hp:=HP.out
   rw[List.take_of_length_le (by rw[HN.out];exact Nat.le_refl _)] at hp
   rw[idxP_miss hp]
   rfl
def nmP (nm:List UInt8) (x:List Value):Bool:=match x with
 | .string s::_=>s.data.toList == nm
 | _=>false
set_option maxHeartbeats 2000000 in
set_option maxRecDepth 100000 in
theorem ckClo_any (W:World) (bx:Nat) (add:Bool) (nm:List UInt8) (rv:Value) (s:ByteArray) (cv:Value) (hx:Blk W bx 68 #[.bool add,.string ⟨nm.toArray⟩,rv]) :
 Calls Tryz.prog 270 #[.agg #[.string s,cv],.pointer (some ⟨bx,0,none⟩)] W fun e w'=>e=.returned (.bool (s.data.toList == nm))/\Below W.heap.size W w':=by
 have x1:=hx.cell 1
 have xl:=hx.lt
 simp only[List.getElem?_toArray,List.getElem?_cons_zero,List.getElem?_cons_succ] at x1
 have hb0:Below W.heap.size W (W.alloc (.cells #[.string s,cv] 57)):=balloc (Below.refl _ _) _
 have HB0:=Lib.hid hb0
 obtain⟨l⟩:=s
 obtain⟨l⟩:=l
 have hsd:(⟨⟨l⟩⟩:ByteArray).data.toList=l:=rfl
 rw[hsd]
 have HX:=Lib.hid hx
 clear hx hb0 hsd
 go_enter Tryz.func270,Tryz.ntmps270
 go_wp2_with fail
 go_ret
 exact⟨by first | rfl | simp,HB0.out⟩
theorem idx_rel {w:World} {nm:List UInt8}:∀ {rows:List (List Value)} {d:List Rln},All2 (RelC w) rows d->rows.findIdx? (nmP nm)=(d.map (·.name)).findIdx? (· == nm)
 | [],[],_=>rfl
 | c::rows,r::d,h=>by
   obtain⟨cv,rfl,_⟩:=h.1
   rw[List.map_cons,List.findIdx?_cons,List.findIdx?_cons,idx_rel h.2]
   simp [nmP]
 | [],_::_,h=>h.elim
 | _::_,[],h=>h.elim
theorem idxI_find (x:List UInt8):∀ l:List (List UInt8),(match l.findIdx? (· == x) with | some i=>(i:Int) | none => -1)=idxI l x
 | []=>by simp [idxI]
 | a::l=>by
   have ih:=idxI_find x l
   unfold idxI at ih ⊢
   rw[List.findIdx?_cons]
   by_cases h:a=x
   ·subst h
    simp
   ·have hb:(a == x)=false:=by simpa using h
    have hx:(x∈a::l)=(x∈l):=by simp [Ne.symm h]
    have hi:List.idxOf x (a::l)=List.idxOf x l+1:=by rw[List.idxOf_cons,hb];rfl
    rw[hb,hi]
    simp only[Bool.false_eq_true,if_false,hx]
    cases hf:l.findIdx? (· == x) with
    | none =>
      rw[hf] at ih
      have ih':(-1:Int)=if x∈l then (List.idxOf x l:Int) else -1:=ih
      by_cases hm:x∈l
      ·rw[if_pos hm] at ih'
       omega
      ·rw[if_neg hm]
       rfl
    | some i =>
      rw[hf] at ih
      have ih':(i:Int)=if x∈l then (List.idxOf x l:Int) else -1:=ih
      by_cases hm:x∈l
      ·rw[if_pos hm] at ih' ⊢
       show ((i+1:Nat):Int)=_
       omega
      ·rw[if_neg hm] at ih'
       omega
theorem idxP_rel {w:World} {nm:List UInt8} {rows:List (List Value)} {d:List Rln} (h:All2 (RelC w) rows d):idxP (nmP nm) rows=plI d nm:=by
 unfold idxP plI
 rw[idx_rel h]
 exact idxI_find nm _
theorem place_any (W:World) (v:Value) (d:List Rln) (h:RelsAt W v d) (bx:Nat) (add:Bool) (nm:List UInt8) (rv:Value) (hx:Blk W bx 68 #[.bool add,.string ⟨nm.toArray⟩,rv]) :
 Calls Tryz.prog 82 #[v,.func (.func 270) #[] #[.pointer (some ⟨bx,0,none⟩)]] W fun e w'=>e=.returned (.int .i64 (plI d nm))/\Below W.heap.size W w':=by
 obtain⟨rows,h1,h2⟩:=h
 have hix:=indexFunc_Rel 270 #[.pointer (some ⟨bx,0,none⟩)] (enters_of Tryz.func270 (by kernel_rfl) rfl) (nmP nm) W v rows h1 (fun x hx=>by
  obtain⟨r,_,cv,rfl,_⟩:=all2_mem h2 x hx
  rfl) (fun W' x hW hxm=>by
  obtain⟨r,_,cv,rfl,_⟩:=all2_mem h2 x hxm
  exact ckClo_any W' bx add nm rv ⟨r.name.toArray⟩ cv (hx.below hW hx.lt))
 rw[idxP_rel h2] at hix
 exact hix
set_option maxHeartbeats 8000000 in
set_option maxRecDepth 100000 in
theorem ccheck_any (w:World) (bv dv:Value) (b:List Chg) (d:List Rln) (hb:ChgsAt w bv b) (hd:RelsAt w dv d) :
 Calls Tryz.prog 237 #[bv,dv] w fun e w'=>e=.returned (.tuple #[.int .i64 (chkBt b d).1,.int .i64 (chkBt b d).2])/\Below w.heap.size w w':=by
 have hmf:∀ (fn:Fn) (first cap:Array Value) (w:World),(Instr.makeFunc fn first cap).run Tryz.prog w=.ok (.func fn first cap) w:=fun _ _ _ _=>rfl
 have hnot:∀ (x:Bool) (w:World),(Op.unary .not (.bool x)).run Tryz.prog w=.ok (.bool (!x)) w:=fun _ _=>rfl
 obtain⟨ba,bc,rfl,hbn,hbm⟩:=hb.form
 obtain⟨da,dc,rfl,hdn',hdm⟩:=hd.form
 have hlb:=hb.len
 have hld:=hd.len
 unfold maxLen at hbm hdm
 have HB:=Lib.hid hb
 have HD:=Lib.hid hd
 obtain⟨RES,hRES⟩:∃ RES,RES=chkBt b d:=⟨_,rfl⟩
 rw[<-hRES]
 have HQ:=Lib.hid hRES
 clear hb hd hRES
 generalize hN:b.length=n at *
 generalize hM:d.length=dn at *
 have HN:=Lib.hid hN
 have HM:=Lib.hid hM
 clear hN hM
 by_cases hmany:256<n
 ·have hdd:(256:Int)<(n:Int):=by omega
  have hq:RES=(0,100):=by
   rw[HQ.out]
   unfold chkBt
   rw[if_pos (by rw[HN.out];exact hmany)]
  subst hq
  go_enter Tryz.func237,Tryz.ntmps237
  go_wp2_with fail
  go_ret2
  exact⟨rfl,Below.refl _ _⟩
 ·have hdd:¬ ((256:Int)<(n:Int)):=by omega
  have hq:RES=cbG d b 0:=by
   rw[HQ.out]
   unfold chkBt
   rw[if_neg (by rw[HN.out];exact hmany)]
  have HQ2:=Lib.hid hq
  clear hq hmany
  go_enter Tryz.func237,Tryz.ntmps237
  go_wp2_with fail
  go_loopw [14] (fun i wr=>∃ j:Nat,j<=n/\i=.int .i64 j/\Hid (RES=cbG d (b.drop j) j)/\Hid (Below w.heap.size w wr)) (fun i _=>n - (intOf i).toNat)
  case atStart=>exact⟨0,Nat.zero_le _,rfl,Lib.hid (by rw[HQ2.out];rfl),Lib.hid (Below.refl _ _)⟩
  case round =>
   obtain⟨j,hj,rfl,HP,BW⟩:=hrel
   obtain⟨wo,rfl⟩:∃ wo:World,wo=wr:=⟨_,rfl⟩
   by_cases hlt:j<n
   ·obtain⟨c,hc⟩:∃ c,b[j]? = some c:=⟨b[j]'(by rw[HN.out];exact hlt),List.getElem?_eq_getElem (by rw[HN.out];exact hlt)⟩
    obtain⟨b1,o1,c1,rv,hv1,_,_,hl1,q0,q1,q2,hr1,_⟩:=(HB.out.keep BW.out).get hc
    rw[HN.out] at hv1
    simp only[Value.slice.injEq,true_and] at hv1
    obtain⟨rfl,rfl⟩:=hv1
    obtain⟨ra,rc,rfl,_,_⟩:=hr1.form
    have hdk:decide ((j:Int)<0)=false:=by simp
    have hdn:decide ((n:Int)<=(j:Int))=false:=by simp;omega
    have bk:Below wo.heap.size wo (wo.alloc (.cells #[.bool c.add,.string ⟨c.rel.toArray⟩,.slice ra (c.row.map Vl.cells).length rc] 68)):=balloc (Below.refl _ _) _
    have hbx:=Blk.new wo 68 #[.bool c.add,.string ⟨c.rel.toArray⟩,.slice ra (c.row.map Vl.cells).length rc]
    have hpl:=place_any _ _ d ((HD.out.keep BW.out).keep bk) _ _ _ _ hbx
    have HPL:=Lib.hid hpl
    have HBX:=Lib.hid hbx
    have HBK:=Lib.hid (BW.out.trans (bk.mono BW.out.size))
    have HDK:=Lib.hid ((HD.out.keep BW.out).keep bk)
    have HRK:=Lib.hid (hr1.keep bk)
    have HC:=Lib.hid hc
    clear bk hbx hpl hr1 hc
    generalize (c.row.map Vl.cells).length=rn at *
    obtain⟨W1,hW1⟩:∃ W1,wo.alloc (.cells #[.bool c.add,.string ⟨c.rel.toArray⟩,.slice ra rn rc] 68)=W1:=⟨_,rfl⟩
    rw[hW1] at HPL HBX HBK HDK HRK
    have HW1:=Lib.hid hW1
    clear hW1
    rcases plI_range d c.rel with hp | ⟨k,r,hp,hr,hrn⟩
    ·have hq:=HP.out
     rw[cbG_hit HC.out (by rw[fitD_none hp];decide),fitD_none hp] at hq
     subst hq
     rw[hp] at HPL
     clear hp
     go_wp2_with fail
     rw[HW1.out]
     refine HPL.out.mono ?_
     rintro e w6 ⟨rfl,hb6⟩
     have HB6:=Lib.hid (HBK.out.trans (hb6.mono HBK.out.size))
     clear hb6
     go_wp2_with fail
     go_ret2
     exact⟨rfl,HB6.out⟩
    ·rw[hp] at HPL
     have hfd:=fitD_some (row:=c.row) hp hr
     have hkl:=(List.getElem?_eq_some_iff.1 hr).1
     rw[HM.out] at hkl
     have hk0:¬ ((k:Int)<0):=by omega
     have hdk2:decide ((k:Int)<0)=false:=by simp
     have hdn2:decide ((dn:Int)<=(k:Int))=false:=by simp;omega
     have HFD:=Lib.hid hfd
     have HRR:=Lib.hid hr
     clear hp hfd hr
     go_wp2_with fail
     rw[HW1.out]
     refine HPL.out.mono ?_
     rintro e w6 ⟨rfl,hb6⟩
     obtain⟨db,d_o,dcap,cv,hdv,_,_,hdl,_,k1,hcols,_⟩:=(HDK.out.keep hb6).get HRR.out
     rw[HM.out] at hdv
     simp only[Value.slice.injEq,true_and] at hdv
     obtain⟨rfl,rfl⟩:=hdv
     obtain⟨ca,cc,rfl,_,_⟩:=hcols.form
     have hx6:=HBX.out.below hb6 HBX.out.lt
     have x2:=hx6.cell 2
     have xl:=hx6.lt
     simp only[List.getElem?_toArray,List.getElem?_cons_zero,List.getElem?_cons_succ] at x2
     have hft:=fun W (hW:Below w6.heap.size w6 W)=>cfits_any W _ _ c.row r.cols ((HRK.out.keep hb6).keep hW) (ColsAt.keep hcols hW)
     have HFT:=Lib.hid hft
     have HB6:=Lib.hid (HBK.out.trans (hb6.mono HBK.out.size))
     clear hb6 hcols hx6 hft
     generalize r.cols.length=cn at *
     cases hfb:fitsB c.row r.cols with
     | true =>
       have hq:=HP.out
       rw[cbG_step HC.out (by rw[HFD.out,hfb];rfl)] at hq
       have HP2:=Lib.hid hq
       rw[hfb] at HFT
       clear hq
       go_wp2_with fail
       first
        | go_region_law (go_simp;go_at_call 271;refine (HFT.out _ (bdrew (Below.refl _ _))).mono ?_;rintro e w8 ⟨rfl,hb8⟩;have HB8:=Lib.hid (bt2 (bdrew (Below.refl _ _)) hb8);clear hb8)
        | fail "no way"
       all_goals
        go_wp2_with fail
        go_roundw
        case rel=>exact⟨j+1,by omega,by go_num,HP2,Lib.hid (HB6.out.trans (Below.mono HB8.out HB6.out.size))⟩
        case measure=>simp [intOf];omega
     | false =>
       have hq:=HP.out
       rw[cbG_hit HC.out (by rw[HFD.out,hfb];decide),HFD.out,hfb,if_neg (by decide)] at hq
       subst hq
       rw[hfb] at HFT
       go_wp2_with fail
       first
        | go_region_law (go_simp;go_at_call 271;refine (HFT.out _ (bdrew (Below.refl _ _))).mono ?_;rintro e w8 ⟨rfl,hb8⟩;have HB8:=Lib.hid (bt2 (bdrew (Below.refl _ _)) hb8);clear hb8)
        | fail "no way"
       all_goals
        go_wp2_with fail
        go_ret2
        exact⟨rfl,HB6.out.trans (Below.mono HB8.out HB6.out.size)⟩
   ·obtain rfl:j=n:=by omega
    have hq:=HP.out
    rw[List.drop_eq_nil_of_le (by rw[HN.out];exact Nat.le_refl _)] at hq
    have hq':RES=(0,0):=hq
    subst hq'
    go_wp2_with fail
    go_ret2
    exact⟨rfl,BW.out⟩
set_option maxHeartbeats 4000000 in
set_option maxRecDepth 100000 in
theorem refPlace_any (w:World) (v:Value) (d:List Rln) (x:ByteArray) (h:RelsAt w v d) :
 Calls Tryz.prog 50 #[v,.string x] w fun e w'=>e=.returned (.int .i64 (plI d x.data.toList))/\Below w.heap.size w w':=by
 obtain⟨ad,cap,rfl,hnc,hcm⟩:=h.form
 have hln:=h.len
 unfold maxLen at hcm
 have HD:=Lib.hid h
 obtain⟨RES,hRES⟩:∃ RES,RES=plI d x.data.toList:=⟨_,rfl⟩
 rw[<-hRES]
 have HQ:=Lib.hid hRES
 clear h hRES
 generalize hN:d.length=n at *
 have HN:=Lib.hid hN
 clear hN
 obtain⟨xs⟩:=x
 obtain⟨xs⟩:=xs
 go_enter Tryz.func50,Tryz.ntmps50
 go_wp2_with fail
 go_loopw [5] (fun i wr=>∃ k:Nat,k<=n/\i=.int .i64 k/\Hid (∀ y∈(d.map (·.name)).take k,y≠xs)/\Hid (Below w.heap.size w wr)) (fun i _=>n - (intOf i).toNat)
 case atStart=>exact⟨0,Nat.zero_le _,rfl,Lib.hid (by simp),Lib.hid (Below.refl _ _)⟩
 case round =>
  obtain⟨k,hk,rfl,HP,BW⟩:=hrel
  by_cases hlt:k<n
  ·obtain⟨r,hr⟩:∃ r,d[k]? = some r:=⟨d[k]'(by rw[HN.out];exact hlt),List.getElem?_eq_getElem (by rw[HN.out];exact hlt)⟩
   obtain⟨db,d_o,dcap,cv,hdv,_,_,hdl,k0,_,_,_⟩:=(HD.out.keep BW.out).get hr
   rw[HN.out] at hdv
   simp only[Value.slice.injEq,true_and] at hdv
   obtain⟨rfl,rfl⟩:=hdv
   have hdk:decide ((k:Int)<0)=false:=by simp
   have hdn:decide ((n:Int)<=(k:Int))=false:=by simp;omega
   have hnk:(d.map (·.name))[k]? = some r.name:=by simp [hr]
   have HNK:=Lib.hid hnk
   clear hr hnk
   by_cases he:r.name=xs
   ·have hb:(r.name == xs)=true:=by simp [he]
    have hq:=HQ.out
    rw[show plI d (⟨⟨xs⟩⟩:ByteArray).data.toList=(k:Int) from idxI_hit (by rw[HNK.out,he]) (fun hm=>HP.out _ hm rfl)] at hq
    subst hq
    clear he
    go_wp2_with fail
    go_ret
    exact⟨rfl,BW.out⟩
   ·have hb:(r.name == xs)=false:=by simpa using he
    have HP2:Hid (∀ y∈(d.map (·.name)).take (k+1),y≠xs):=Lib.hid (by
     intro y hy
     rw[List.take_add_one,HNK.out] at hy
     simp only[Option.toList_some,List.mem_append,List.mem_singleton] at hy
     rcases hy with hy | rfl
     ·exact HP.out y hy
     ·exact he)
    clear he
    go_wp2_with fail
    go_roundw
    case rel=>exact⟨k+1,by omega,by go_num,HP2,BW⟩
    case measure=>simp [intOf];omega
  ·obtain rfl:k=n:=by omega
   have hq:=HQ.out
   have hp:=HP.out
   rw[List.take_of_length_le (by rw[List.length_map,HN.out];exact Nat.le_refl _)] at hp
   rw[show plI d (⟨⟨xs⟩⟩:ByteArray).data.toList = -1 from idxI_miss (fun hm=>hp _ hm rfl)] at hq
   subst hq
   clear hp
   go_wp2_with fail
   go_ret
   exact⟨rfl,BW.out⟩
section
variable {P : Program} {md : Region.Mode} {ops : Array Oper} {Q : Exit -> Act -> World -> Prop}
def okSkips (md:Region.Mode) (ops:Array Oper):Array Bool->Array Value->List (Nat × Nat)->Bool
 | _,_,[]=>true
 | listed,tmps,(i,d)::is=>(match ops[i]? with
   | some oi=>oi.dst == some d && Region.free md ops listed i && (Region.ready md ops listed).contains i && (Region.wanted oi (yielded ops tmps) == false)
   | none=>false) && okSkips md ops (listed.setIfInBounds i true) (tmps.setIfInBounds d undef) is
def setAll:Array Bool->List (Nat × Nat)->Array Bool
 | l,[]=>l
 | l,(i,_)::is=>setAll (l.setIfInBounds i true) is
def putAll:Array Value->List (Nat × Nat)->Array Value
 | t,[]=>t
 | t,(_,d)::is=>putAll (t.setIfInBounds d undef) is
theorem wpAny_skips_go (hs:Region.noSelect ops=true) (hQ:∀ c (a:Act) (t:Array Value) w,Q (.panic c) { a with tmps:=t } w->Q (.panic c) a w):∀ (is:List (Nat × Nat)) (fuel:Nat) (listed:Array Bool) (a:Act) (w:World),
 okSkips md ops listed a.tmps is=true->wpAny P md ops Q fuel (setAll listed is) { a with tmps:=putAll a.tmps is } w->wpAny P md ops Q (fuel+is.length) listed a w
 | [],fuel,listed,a,w,_,h=>h
 | (i,d)::is,fuel,listed,a,w,hok,h=>by
   unfold okSkips at hok
   rw[Bool.and_eq_true] at hok
   obtain⟨h1,h2⟩:=hok
   cases hi:ops[i]? with
   | none=>rw[hi] at h1;simp at h1
   | some oi =>
     rw[hi] at h1
     simp only[Bool.and_eq_true,beq_iff_eq] at h1
     obtain⟨⟨⟨hd,hf⟩,hr⟩,hw⟩:=h1
     have hp:a.put oi.dst undef = { a with tmps:=a.tmps.setIfInBounds d undef }:=by rw[hd];rfl
     show wpAny P md ops Q ((fuel+is.length)+1) listed a w
     refine wpAny_take (oi:=oi) (v:=undef) hi hs hf hr (fun c a' w' hh=>?_) (.inr ⟨hw,rfl⟩) ?_
     ·rw[hd] at hh
      exact hQ c a' _ w' hh
     ·rw[hp]
      exact wpAny_skips_go hs hQ is fuel _ _ w h2 h
theorem wpAny_skips (is:List (Nat × Nat)) (fuel:Nat) {F:Nat} {listed:Array Bool} {a:Act} {w:World} (hF:F=fuel+is.length) (hs:Region.noSelect ops=true)
 (hok:okSkips md ops listed a.tmps is=true) (hQ:∀ c (a:Act) (t:Array Value) w,Q (.panic c) { a with tmps:=t } w->Q (.panic c) a w)
 (h:wpAny P md ops Q fuel (setAll listed is) { a with tmps:=putAll a.tmps is } w):wpAny P md ops Q F listed a w:=by
 subst hF
 exact wpAny_skips_go hs hQ is fuel listed a w hok h
theorem wpAny_takeAt (i d:Nat) {oi:Oper} {v:Value} {fuel:Nat} {listed:Array Bool} {a:Act} {w:World} (hi:ops[i]? = some oi) (hd:oi.dst=some d)
 (hs:Region.noSelect ops=true) (hf:Region.free md ops listed i=true) (hr:(Region.ready md ops listed).contains i=true)
 (hQ:∀ c (a:Act) (t:Array Value) w,Q (.panic c) { a with tmps:=t } w->Q (.panic c) a w) (hw:Region.wanted oi (yielded ops a.tmps)=true) (hy:∀ w,(execOp a.eval oi).run P w=.ok (.value v) w)
 (h:wpAny P md ops Q fuel (listed.setIfInBounds i true) { a with tmps:=a.tmps.setIfInBounds d v } w):wpAny P md ops Q (fuel+1) listed a w:=by
 refine wpAny_take (oi:=oi) (v:=v) hi hs hf hr (fun c a' w' hh=>?_) (.inl ⟨hw,hy⟩) ?_
 ·rw[hd] at hh
  exact hQ c a' _ w' hh
 ·rw[hd]
  exact h
end
set_option maxHeartbeats 8000000 in
set_option maxRecDepth 100000 in
theorem refFits_any (w:World) (dv rv:Value) (d:List Rln) (x:ByteArray) (row:List Vl) (h:RelsAt w dv d) (hrow:RowAt w rv 3 (row.map Vl.cells)) :
 Calls Tryz.prog 98 #[dv,.string x,rv] w fun e w'=>e=.returned (.int .i64 (fitD d x.data.toList row))/\Below w.heap.size w w':=by
 have hnot:∀ (x:Bool) (w:World),(Op.unary .not (.bool x)).run Tryz.prog w=.ok (.bool (!x)) w:=fun _ _=>rfl
 have hpl:=refPlace_any w dv d x h
 have hln:=hrow.len
 rw[List.length_map] at hln
 obtain⟨ra,rc,rfl,hrn,hrm⟩:=hrow.form
 obtain⟨da,dc,rfl,hdn,hdm⟩:=h.form
 unfold maxLen at hrm hdm
 rw[List.length_map] at *
 have HPL:=Lib.hid hpl
 have HROW:=Lib.hid hrow
 have HD:=Lib.hid h
 obtain⟨RES,hRES⟩:∃ RES,RES=fitD d x.data.toList row:=⟨_,rfl⟩
 rw[<-hRES]
 have HRES:=Lib.hid hRES
 clear hrow h hRES hpl
 generalize hN:row.length=n at *
 generalize hM:d.length=dn at *
 have HN:=Lib.hid hN
 have HM:=Lib.hid hM
 clear hN hM
 rcases plI_range d x.data.toList with hp | ⟨k,r,hp,hr,hnm⟩
 ·have hq:=HRES.out
  rw[fitD_none hp] at hq
  subst hq
  rw[hp] at HPL
  clear hp
  go_enter Tryz.func98,Tryz.ntmps98
  go_wp2_with fail
  refine HPL.out.mono ?_
  rintro e w1 ⟨rfl,hb1⟩
  have HB1:=Lib.hid hb1
  clear hb1
  go_wp2_with fail
  go_ret
  exact⟨rfl,HB1.out⟩
 ·have hq:=HRES.out
  rw[fitD_some hp hr] at hq
  rw[hp] at HPL
  have HQ:=Lib.hid hq
  have hkl:=(List.getElem?_eq_some_iff.1 hr).1
  rw[HM.out] at hkl
  have hk0:¬ ((k:Int)<0):=by omega
  have hdk2:decide ((k:Int)<0)=false:=by simp
  have hdn2:decide ((dn:Int)<=(k:Int))=false:=by simp;omega
  have HRR:=Lib.hid hr
  clear hp hr hnm hq HRES
  go_enter Tryz.func98,Tryz.ntmps98
  go_wp2_with fail
  refine HPL.out.mono ?_
  rintro e w1 ⟨rfl,hb1⟩
  obtain⟨db,d_o,dcap,cv,hdv,_,_,hdl,_,k1,hcols,_⟩:=(HD.out.keep hb1).get HRR.out
  rw[HM.out] at hdv
  simp only[Value.slice.injEq,true_and] at hdv
  obtain⟨rfl,rfl⟩:=hdv
  obtain⟨ca,cc,rfl,_,_⟩:=hcols.form
  have HC1:=Lib.hid hcols
  have HR1:=Lib.hid (HROW.out.keep hb1)
  have HB1:=Lib.hid hb1
  clear hb1 hcols
  generalize hK:r.cols.length=cn at *
  have HK:=Lib.hid hK
  clear hK
  by_cases hnc:cn=n
  ·subst hnc
   have hnn:((cn:Int) != (cn:Int))=false:=by simp
   go_wp2_with fail
   go_loopw [9] (fun i wr=>∃ j:Nat,j<=cn/\i=.int .i64 j/\Hid (∀ (q:Nat) (u:Vl) (c:Col),q<j->row[q]? = some u->r.cols[q]? = some c->okF u c=true)/\Hid (Below w1.heap.size w1 wr)) (fun i _=>cn - (intOf i).toNat)
   case atStart=>exact⟨0,Nat.zero_le _,rfl,Lib.hid (fun q _ _ hq=>by omega),Lib.hid (Below.refl _ _)⟩
   case round =>
    obtain⟨j,hj,rfl,HP,BW⟩:=hrel
    obtain⟨wo,rfl⟩:∃ wo:World,wo=wr:=⟨_,rfl⟩
    by_cases hlt:j<cn
    ·obtain⟨uu,hu⟩:∃ uu,row[j]? = some uu:=⟨row[j]'(by rw[HN.out];exact hlt),List.getElem?_eq_getElem (by rw[HN.out];exact hlt)⟩
     obtain⟨c,hc⟩:∃ c,r.cols[j]? = some c:=⟨r.cols[j]'(by rw[HK.out];exact hlt),List.getElem?_eq_getElem (by rw[HK.out];exact hlt)⟩
     obtain⟨vb,vo,vcap,hv,_,_,hvl,hce⟩:=(HR1.out.keep BW.out).get (i:=j) (x:=uu.cells) (by simp [hu])
     simp only[List.length_map,HN.out,Value.slice.injEq,true_and] at hv
     obtain⟨rfl,rfl⟩:=hv
     have q0:=hce 0 _ rfl
     have q1:=hce 1 _ rfl
     have q2:=hce 2 _ rfl
     simp only[Nat.add_zero] at q0
     obtain⟨cb,co,ccap,hcv,_,_,hcl,k0,k1'⟩:=(ColsAt.keep HC1.out BW.out).get hc
     simp only[HK.out,Value.slice.injEq,true_and] at hcv
     obtain⟨rfl,rfl⟩:=hcv
     have hvd:=fun W=>refValid_any uu.k uu.n ⟨uu.t.toArray⟩ W
     obtain⟨vbl,hvb⟩:∃ vbl,validB uu.k uu.n uu.t=vbl:=⟨_,rfl⟩
     rw[show validB uu.k uu.n (⟨uu.t.toArray⟩:ByteArray).data.toList=vbl from hvb] at hvd
     have HVD:=Lib.hid hvd
     have HVB:=Lib.hid hvb
     have HU:=Lib.hid hu
     have HC:=Lib.hid hc
     have hdk:decide ((j:Int)<0)=false:=by simp
     have hdn:decide ((cn:Int)<=(j:Int))=false:=by simp;omega
     have hbW:=Below.refl wo.heap.size wo
     have HKV:Hid (∀ W,(W.cell? ⟨vb,vo+j * 3,none⟩=some (.int .i64 uu.k)/\W.cell? ⟨vb,vo+j * 3+1,none⟩=some (.int .i64 uu.n)/\W.cell? ⟨vb,vo+j * 3+2,none⟩=some (.string ⟨uu.t.toArray⟩)/\W.cell? ⟨cb,co+j * 2+1,none⟩=some (.int .i64 c.k)/\Below wo.heap.size wo W)->Calls Tryz.prog 122 #[.agg #[.int .i64 uu.k,.int .i64 uu.n,.string ⟨uu.t.toArray⟩]] W fun e w'=>e=.returned (.bool vbl)/\w'.cell? ⟨vb,vo+j * 3,none⟩=some (.int .i64 uu.k)/\w'.cell? ⟨vb,vo+j * 3+1,none⟩=some (.int .i64 uu.n)/\w'.cell? ⟨vb,vo+j * 3+2,none⟩=some (.string ⟨uu.t.toArray⟩)/\w'.cell? ⟨cb,co+j * 2+1,none⟩=some (.int .i64 c.k)/\Below wo.heap.size wo w') :=
      Lib.hid fun W h=>(HVD.out W).mono fun e w' hh=>by
       obtain⟨a0,a1,a2,a3,a4⟩:=h
       have hz:=a4.size
       exact⟨hh.1,(hh.2.cell (p:=⟨vb,vo+j * 3,none⟩) (by simp only;omega)).trans a0,(hh.2.cell (p:=⟨vb,vo+j * 3+1,none⟩) (by simp only;omega)).trans a1,(hh.2.cell (p:=⟨vb,vo+j * 3+2,none⟩) (by simp only;omega)).trans a2,(hh.2.cell (p:=⟨cb,co+j * 2+1,none⟩) (by simp only;omega)).trans a3,a4.trans (hh.2.mono hz)⟩
     have HBK:=Lib.hid (HB1.out.trans (BW.out.mono HB1.out.size))
     clear hce hvd hvb hu hc k0
     cases vbl with
     | false =>
       have hno:fitsB row r.cols=false:=fits_no HU.out HC.out (by unfold okF;rw[HVB.out];rfl)
       have hq:=HQ.out
       rw[hno,if_neg (by decide)] at hq
       subst hq
       clear hno
       go_wp2_with fail
       refine wp_region_any (by kernel_rfl) ?_
       try (change wpAny _ _ _ _ _ _ _ (World.drew _))
       refine wpAny_take (i:=0) (v:=?_) rfl (by kernel_rfl) (by kernel_rfl) (by kernel_rfl) (fun _ _ _ h=>h) (Or.inl ⟨by rfl,?_⟩) ?_
       rotate_left
       ·intro w
        go_simp
        try with_reducible rfl
       refine wpAny_take (i:=1) (v:=?_) rfl (by kernel_rfl) (by kernel_rfl) (by kernel_rfl) (fun _ _ _ h=>h) (Or.inl ⟨by rfl,?_⟩) ?_
       rotate_left
       ·intro w
        go_simp
        try with_reducible rfl
       refine wpAny_take (i:=2) (v:=?_) rfl (by kernel_rfl) (by kernel_rfl) (by kernel_rfl) (fun _ _ _ h=>h) (Or.inl ⟨by rfl,?_⟩) ?_
       rotate_left
       ·intro w
        go_simp
        try with_reducible rfl
       refine wpAny_ready (rs:=[3]) (by kernel_rfl) (by simp) ?_
       refine AllReady.cons rfl (fun K hK=>?_) AllReady.nil
       go_simp
       refine hK _ _ ?_
       clear hK K
       refine wpAny_ready (rs:=[4]) (by kernel_rfl) (by simp) ?_
       refine AllReady.cons rfl (fun K hK=>?_) AllReady.nil
       go_simp
       refine (HVD.out _).mono ?_
       rintro e w8 ⟨rfl,hb8⟩
       have HB8:Hid (Below wo.heap.size wo w8):=Lib.hid ((bdrew (Below.refl wo.heap.size wo)).trans hb8)
       clear hb8
       refine hK _ _ ?_
       clear hK K
       refine wpAny_take (i:=5) (v:=?_) rfl (by kernel_rfl) (by kernel_rfl) (by kernel_rfl) (fun _ _ _ h=>h) (Or.inl ⟨by rfl,?_⟩) ?_
       rotate_left
       ·intro w
        go_simp
        try with_reducible rfl
       refine wpAny_take (i:=6) (v:=?_) rfl (by kernel_rfl) (by kernel_rfl) (by kernel_rfl) (fun _ _ _ h=>h) (Or.inl ⟨by rfl,?_⟩) ?_
       rotate_left
       ·intro w
        go_simp
        try with_reducible rfl
       refine wpAny_skips [(7,38),(8,39),(12,43),(13,44),(9,40),(10,41),(14,45),(15,46),(11,42),(16,47),(17,48)] 1 rfl (by kernel_rfl) (by kernel_rfl) (fun _ _ _ _ h=>h) ?_
       simp only[Act.put,putAll,List.getElem_toArray,List.getElem_cons_succ,List.getElem_cons_zero,List.setIfInBounds_toArray,List.set_cons_succ,List.set_cons_zero]
       refine wpAny_takeAt 18 49 (v:=?_) rfl (by kernel_rfl) (by kernel_rfl) (by kernel_rfl) (by kernel_rfl) (fun _ _ _ _ h=>h) (by rfl) ?_ ?_
       rotate_left
       ·intro w
        go_simp
        try with_reducible rfl
       refine wpAny_done (by kernel_rfl) ?_ _
       simp only[List.setIfInBounds_toArray,List.set_cons_succ,List.set_cons_zero]
       all_goals
        go_wp2_with fail
        go_ret
        exact⟨rfl,HBK.out.trans (Below.mono HB8.out HBK.out.size)⟩
     | true =>
       by_cases hkk:uu.k=c.k
       ·have hd:(uu.k != c.k)=false:=by simp [hkk]
        have hok:okF uu c=true:=by unfold okF;rw[HVB.out,decide_eq_true hkk];rfl
        have HP2:Hid (∀ (q:Nat) (u:Vl) (c:Col),q<j+1->row[q]? = some u->r.cols[q]? = some c->okF u c=true):=Lib.hid (fun q u' c' hq h1 h2=>by
         rcases Nat.lt_or_eq_of_le (Nat.le_of_lt_succ hq) with h | rfl
         ·exact HP.out q u' c' h h1 h2
         ·rw[HU.out] at h1
          rw[HC.out] at h2
          simp only[Option.some.injEq] at h1 h2
          subst h1 h2
          exact hok)
        clear hkk hok
        go_wp2_with fail
        go_region_held3 (fun w'=>w'.cell? ⟨vb,vo+j * 3,none⟩=some (.int .i64 uu.k)/\w'.cell? ⟨vb,vo+j * 3+1,none⟩=some (.int .i64 uu.n)/\w'.cell? ⟨vb,vo+j * 3+2,none⟩=some (.string ⟨uu.t.toArray⟩)/\w'.cell? ⟨cb,co+j * 2+1,none⟩=some (.int .i64 c.k)/\Below wo.heap.size wo w')
         (first | exact hK | (go_split_ands;refine⟨?_,?_,?_,?_,?_⟩<;>first | exact bdrew (by assumption) | assumption | go_keep))
         (first | (go_at_call 122;go_split_ands;refine (HKV.out _ ⟨by assumption,by assumption,by assumption,by assumption,by assumption⟩).mono ?_;rintro e w' ⟨rfl,hK⟩))
        all_goals go_split_ands
        all_goals
         go_wp2_with fail
         go_roundw
         case rel=>exact⟨j+1,by omega,by go_num,HP2,Lib.hid (BW.out.trans (Below.mono (by assumption) BW.out.size))⟩
         case measure=>simp [intOf];omega
       ·have hd:(uu.k != c.k)=true:=by simpa using hkk
        have hno:fitsB row r.cols=false:=fits_no HU.out HC.out (by unfold okF;rw[decide_eq_false hkk,Bool.and_false])
        have hq:=HQ.out
        rw[hno,if_neg (by decide)] at hq
        subst hq
        clear hno hkk
        go_wp2_with fail
        go_region_held3 (fun w'=>w'.cell? ⟨vb,vo+j * 3,none⟩=some (.int .i64 uu.k)/\w'.cell? ⟨vb,vo+j * 3+1,none⟩=some (.int .i64 uu.n)/\w'.cell? ⟨vb,vo+j * 3+2,none⟩=some (.string ⟨uu.t.toArray⟩)/\w'.cell? ⟨cb,co+j * 2+1,none⟩=some (.int .i64 c.k)/\Below wo.heap.size wo w')
         (first | exact hK | (go_split_ands;refine⟨?_,?_,?_,?_,?_⟩<;>first | exact bdrew (by assumption) | assumption | go_keep))
         (first | (go_at_call 122;go_split_ands;refine (HKV.out _ ⟨by assumption,by assumption,by assumption,by assumption,by assumption⟩).mono ?_;rintro e w' ⟨rfl,hK⟩))
        all_goals go_split_ands
        all_goals
         go_wp2_with fail
         go_ret
         exact⟨rfl,HBK.out.trans (Below.mono (by assumption) HBK.out.size)⟩
    ·obtain rfl:j=cn:=by omega
     have hyes:fitsB row r.cols=true:=fits_yes (by rw[HN.out,HK.out]) (fun q u c h1 h2=>HP.out q u c (by rw[<-HN.out];exact (List.getElem?_eq_some_iff.1 h1).1) h1 h2)
     have hq:=HQ.out
     rw[hyes,if_pos rfl] at hq
     subst hq
     clear hyes
     go_wp2_with fail
     go_ret
     exact⟨rfl,HB1.out.trans (BW.out.mono HB1.out.size)⟩
  ·have hd:((cn:Int) != (n:Int))=true:=by simpa using fun e=>hnc (by omega)
   have hq:=HQ.out
   rw[fits_len (by rw[HN.out,HK.out];exact fun e=>hnc e.symm),if_neg (by decide)] at hq
   subst hq
   clear hnc
   go_wp2_with fail
   go_ret
   exact⟨rfl,HB1.out⟩
end Go.Proofs.YtgopfpjinohncaaGreatDoor
