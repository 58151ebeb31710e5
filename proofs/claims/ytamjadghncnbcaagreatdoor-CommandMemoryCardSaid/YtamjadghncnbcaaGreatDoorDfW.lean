/- osierref01.Scan at a number without a minus, walked (printed by num.py). osierref01.Scan at a number with a minus, walked (printed by num.py). -/
import Derived.Test.YtamjadghncnbcaaGreatDoorLbW
import Derived.Test.YtamjadghncnbcaaGreatDoorLeW
namespace Go.Proofs.YtamjadghncnbcaaGreatDoor
open Go.RowKit
set_option linter.unusedVariables false
set_option maxHeartbeats 16000000 in
set_option maxRecDepth 100000 in
theorem refPlainOkb (s:ByteArray) (a:Nat) (w:World) (ha:a<s.size) (hs2:s.size<=281474976710656) (hm:bt s.data.toList a≠45) (hq:bt s.data.toList a≠34) (hmo:(refNum s.data.toList a (a)).e=0/\bt s.data.toList (a)=48) :
 Calls Tryz.prog 141 #[.string s,.int .i64 a] w fun e w'=>e=.returned (refNum s.data.toList a (a)).v/\Below w.heap.size w w':=by
 have HMO:=Lib.hid hmo
 clear hmo
 have hsl:s.data.toList.length=s.size:=rfl
 have HSL:=Lib.hid hsl
 have hbt:=bt_of s a ha
 generalize hL:s.data.toList=l at *
 have HL:=Lib.hid hL
 have q0:((a:Int) == (s.size:Int))=false:=beq_eq_false_iff_ne.2 (by omega)
 have q0':(a == s.size)=false:=beq_eq_false_iff_ne.2 (by omega)
 have q1:(((s[a]'ha).toNat:Int) == 34)=false:=by rw[hbt];exact beq_eq_false_iff_ne.2 hq
 have q2:(((s[a]'ha).toNat:Int) == 45)=false:=by rw[hbt];exact beq_eq_false_iff_ne.2 hm
 have HQ:=Lib.hid (And.intro hm hq)
 have hB0:Below w.heap.size w (w.alloc (.cells #[.int .i64 0,.int .i64 0,.string ⟨#[]⟩] 69)):=balloc (Below.refl _ _) _
 have hblk:Blk (w.alloc (.cells #[.int .i64 0,.int .i64 0,.string ⟨#[]⟩] 69)) w.heap.size 69 #[.int .i64 0,.int .i64 0,.string ⟨#[]⟩]:=Blk.new _ _ _
 have HB0:=Lib.hid (And.intro hB0 hblk)
 clear hsl hbt hL hm hq hB0 hblk
 go_enter Tryz.func141,Tryz.ntmps141
 go_wp2_with fail
 go_loop [8] (fun ix=>∃ (k:Nat),a<=k/\k<=s.size/\ix=.int .i64 k/\digs (l.drop (a))+(a)=k+digs (l.drop k)) (fun ix=>s.size - (intOf ix).toNat)
 case atStart =>
  exact⟨a,Nat.le_refl _,by omega,rfl,by omega⟩
 case round =>
  obtain⟨k,hak,hk,rfl,hrel⟩:=hrel
  have HR:=Lib.hid hrel
  clear hrel
  by_cases hc:k<s.size/\digB (bt l k)=true
  ·obtain⟨hlt,hd⟩:=hc
   have hbt:=bt_of s k hlt
   rw[HL.out] at hbt
   have hst:=digs_step (by have:=HSL.out;omega) hd
   have HST:=Lib.hid hst
   simp only[digB,decide_eq_true_eq] at hd
   obtain⟨d1,d2⟩:=hd
   rw[<-hbt] at d1 d2
   clear hst hbt
   go_wp2_with fail
   go_round
   case rel=>exact⟨k+1,by omega,by omega,by go_num,by have:=HST.out;have:=HR.out;omega⟩
   case measure=>simp [intOf];omega
  ·have hend:digs (l.drop k)=0:=by
    by_cases hlt:k<s.size
    ·exact digs_stop (by have:=HSL.out;omega) (by simpa using fun h=>hc ⟨hlt,h⟩)
    ·rw[List.drop_of_length_le (by have:=HSL.out;omega)];rfl
   have hn:digs (l.drop (a))+(a)=k:=by have:=HR.out;omega
   have hgd:(¬ k<s.size)∨(∃ h:k<s.size,((s[k]'h).toNat:Int)<48∨(48<=((s[k]'h).toNat:Int)/\57<((s[k]'h).toNat:Int))):=by
    by_cases hlt:k<s.size
    ·refine .inr ⟨hlt,?_⟩
     rw[bt_of s k hlt,HL.out]
     have:¬ digB (bt l k)=true:=fun h=>hc ⟨hlt,h⟩
     simp only[digB,decide_eq_true_eq] at this
     omega
    ·exact .inl hlt
   have hdl:(s.extract (a) k).data.toList=(l.drop (a)).take (digs (l.drop (a))):=by
    rw[Lib.extract_data,HL.out];congr 1;omega
   have hnum:refNum l a (a)=if digs (l.drop (a))=0 then bad 11
    else if bt l (a)=48/\(1<digs (l.drop (a))∨a<a) then bad 12
    else if 19<digs (l.drop (a))∨digs (l.drop (a))=19/\0<Lib.compareBytes ((l.drop (a)).take (digs (l.drop (a)))) mostP then bad 12
    else ⟨1,(dval 0 ((l.drop (a)).take (digs (l.drop (a)))):Int),[],(a:Nat)+digs (l.drop (a)),0⟩:=by
    unfold refNum;simp only[Nat.lt_irrefl,if_false]
   have hdig:=dig_take (l:=l.drop (a))
   have hdlen:((l.drop (a)).take (digs (l.drop (a)))).length=digs (l.drop (a)):=by
    have:=digs_le (l.drop (a))
    rw[List.length_take];omega
   have hd0:0<digs (l.drop (a))->bt ((l.drop (a)).take (digs (l.drop (a)))) 0=bt l (a):=by
    intro h
    obtain⟨c,r,hl,hc,hdr⟩:=digs_pos h
    have e:bt (l.drop (a)) 0=bt l (a):=by rw[bt_drop,Nat.add_zero]
    rw[<-e,hdr,hl,Nat.add_comm 1,List.take_succ_cons,bt0,bt0]
   generalize hDd:(l.drop (a)).take (digs (l.drop (a)))=D at *
   generalize digs (l.drop (a))=n at *
   have hke:k=a+n:=by omega
   have HKE:=Lib.hid hke
   have HNUM:=Lib.hid hnum
   have HDL:=Lib.hid hdl
   have HDIG:=Lib.hid hdig
   have HLEN:=Lib.hid hdlen
   have HD0:=Lib.hid hd0
   have r0:=HB0.out.2.cell 0
   have r1:=HB0.out.2.cell 1
   have r2:=HB0.out.2.cell 2
   have z0:=HB0.out.2.frozen 0
   have z1:=HB0.out.2.frozen 1
   have z2:=HB0.out.2.frozen 2
   simp only[List.getElem?_toArray,List.getElem?_cons_zero,List.getElem?_cons_succ] at r0 r1 r2
   clear hc hend hn hnum hdl hdig hdlen hd0 hDd hke
   by_cases hn0:n=0
   ·subst hn0
    have hres:refNum l a (a)=bad 11:=by rw[HNUM.out,if_pos rfl]
    (exfalso;have hx:=HMO.out.1;rw[hres] at hx;simp [bad] at hx)
   ·have hkf:a<k:=by have:=HKE.out;omega
    have hkz:((k:Int) == a)=false:=beq_eq_false_iff_ne.2 (by omega)
    have hkz2:(k == a)=false:=beq_eq_false_iff_ne.2 (by omega)
    have hdz:(s.extract (a) k).size=n:=by rw[Lib.size_eq,HDL.out,HLEN.out]
    have hd1:0<(s.extract (a) k).size:=by omega
    have hdb:(((s.extract (a) k)[0]'hd1).toNat:Int)=bt l (a):=by rw[bt_of _ 0 hd1,HDL.out];exact HD0.out (by omega)
    have hk0:0<k - (a):=by omega
    have hkn:k - (a)=n:=by have:=HKE.out;omega
    have HDZ:=Lib.hid hdz
    clear hdz
    by_cases hz:bt l (a)=48/\(1<n∨a<a)
    ·have hres:refNum l a (a)=bad 12:=by rw[HNUM.out,if_neg hn0,if_pos hz]
     (exfalso;have hx:=HMO.out.1;rw[hres] at hx;simp [bad] at hx)
    ·have hzf:((((s.extract (a) k)[0]'hd1).toNat:Int) == 48)=false∨((((s.extract (a) k)[0]'hd1).toNat:Int)=48/\k - (a)=1/\True):=by
      rw[hdb]
      rcases Classical.em (bt l (a)=48) with e | e
      ·exact .inr ⟨e,by omega,trivial⟩
      ·exact .inl (beq_eq_false_iff_ne.2 e)
     have hov:(refNum l a (a)=bad 12/\(19<k - (a)∨(k - (a)=19/\0<Lib.compareBytes D mostP))) ∨
      (refNum l a (a)=⟨1,(dval 0 D:Int),[],(k:Int),0⟩/\dval 0 D<=9223372036854775807/\(k - (a)<19∨(k - (a)=19/\Lib.compareBytes D mostP<=0))):=by
      have hh:=HNUM.out
      rw[if_neg hn0,if_neg hz] at hh
      have hov:=over_iff HDIG.out (by intro e;have:=HLEN.out;rw[e] at this;simp at this;omega) (by rw[HD0.out (by omega),HLEN.out];omega) (m:=mostP) rfl mostP_dig mostP_val (by decide) (by decide)
      rw[HLEN.out] at hov
      rw[hkn]
      by_cases ho:19<n∨n=19/\0<Lib.compareBytes D mostP
      ·rw[if_pos ho] at hh
       exact .inl ⟨hh,ho⟩
      ·rw[if_neg ho] at hh
       refine .inr ⟨?_,by omega,by omega⟩
       rw[hh]
       congr 1
       have:=HKE.out
       omega
     have HC:=Lib.hid hdb
     clear hz hdb
     rcases hov with ⟨hres,ho⟩ | ⟨hres,hle,ho⟩
     ·(exfalso;have hx:=HMO.out.1;rw[hres] at hx;simp [bad] at hx)
     ·have HRES:=Lib.hid hres
      clear hres
      have hdj:∀ j,j<k - (a)->∃ h:j<(s.extract (a) k).size,(((s.extract (a) k)[j]'h).toNat:Int)=bt D j/\(48<=bt D j/\bt D j<=57)/\dval 0 (D.take (j+1))=dval 0 (D.take j) * 10+(bt D j - 48).toNat/\dval 0 (D.take (j+1))<=dval 0 D:=by
       intro j hj
       have hjs:j<(s.extract (a) k).size:=by have:=HDZ.out;omega
       have hjl:j<D.length:=by have:=HLEN.out;omega
       have e1:bt D j=((D[j]'hjl).toNat:Int):=by unfold bt;simp [hjl]
       have e2:=HDIG.out _ (List.getElem_mem hjl)
       simp only[digB,decide_eq_true_eq] at e2
       refine⟨hjs,by rw[bt_of _ j hjs,HDL.out],by rw[e1];exact e2,?_,?_⟩
       ·rw[List.take_succ_eq_append_getElem hjl,dval_snoc,e1]
        congr 1;omega
       ·conv=>rhs;rw[<-List.take_append_drop (j+1) D]
        unfold dval
        rw[List.foldl_append]
        exact dval_acc _ _
      have HDJ:=Lib.hid hdj
      have hfull:dval 0 (D.take (k - (a)))=dval 0 D:=by rw[List.take_of_length_le (by have:=HLEN.out;omega)]
      have HF:=Lib.hid hfull
      have HLE:=Lib.hid hle
      clear hdj hfull hle
      have htx:=fun W=>texts_any (s.extract (a) k) ⟨mostP.toArray⟩ W (by have:=HDZ.out;omega)
      rw[HDL.out,show (ByteArray.mk mostP.toArray).data.toList=mostP from rfl] at htx
      generalize Lib.compareBytes D mostP=cv at *
      have HTX:=Lib.hid htx
      clear htx
      rcases ho with ho | ⟨ho,ho2⟩
      ·have ho3:((k - (a):Nat):Int)<19:=by omega
       have ho4:(((k - (a):Nat):Int) == 19)=false:=beq_eq_false_iff_ne.2 (by omega)
       have ho5:(k - (a) == 19)=false:=beq_eq_false_iff_ne.2 (by omega)
       rcases hzf with hzf | ⟨hzf,hk1,_⟩<;>first | (exfalso;omega) | (exfalso;rw[HC.out,HMO.out.2] at hzf;simp at hzf;done) | skip
       all_goals
        have hk2:((k - (a):Nat):Int)<=1:=by omega
        have hzg:((((s.extract (a) k)[0]'hd1).toNat:Int) == 48)=true:=by rw[hzf];rfl
        clear hk1 hzf
        rcases hgd with hg | ⟨hg,hg2 | ⟨hg2,hg3⟩⟩
        all_goals
         go_wp2_with fail
         go_loop [11,12] (fun vn vi=>∃ (j m:Nat),j<=k - (a)/\vi=.int .i64 j/\vn=.int .u64 m/\Hid (m=dval 0 (D.take j))) (fun _ vi=>(k - (a)) - (intOf vi).toNat)
         case atStart=>exact⟨0,0,Nat.zero_le _,rfl,rfl,Lib.hid (by rw[List.take_zero,dval_nil])⟩
         case round =>
          obtain⟨j,m,hj,rfl,rfl,HM⟩:=hrel
          by_cases hjl:j<k - (a)
          ·obtain⟨hjs,hjb,⟨hj1,hj2⟩,hjn,hjm⟩:=HDJ.out j hjl
           have HJN:=Lib.hid (And.intro hjn hjm)
           have hmm:(m:Int) * 10+(bt D j - 48)<=9223372036854775808:=by have:=HM.out;have:=HLE.out;omega
           clear hjn hjm
           generalize bt D j=c at *
           go_wp2_with fail
           go_round
           case rel=>exact⟨j+1,m * 10+(c - 48).toNat,by omega,by go_num,congrArg (Value.int .u64) (by omega),Lib.hid (by rw[HM.out];exact HJN.out.1.symm)⟩
           case measure=>simp [intOf];omega
          ·have hje:j=k - (a):=by omega
           subst hje
           have hm1:m=dval 0 D:=by rw[HM.out,HF.out]
           have hm2:m<=9223372036854775807:=by rw[hm1];exact HLE.out
           have HR2:Hid (refNum l a (a)=⟨1,(m:Int),[],(k:Int),0⟩):=Lib.hid (by rw[hm1];exact HRES.out)
           have hconv:wrap64 (IntKind.u64.wrap (-(m:Int))) = -(m:Int):=by rw[IntKind.wrap_u64];unfold wrap64;omega
           clear hm1
           go_wp2_with fail
           refine bodyPost_ret (v:=(⟨1,(m:Int),[],(k:Int),0⟩:Res).v) (by simp [results,Tryz.results141,go_sem, *];rfl) rfl ⟨by rw[HR2.out],balloc (Below.refl _ _) _⟩
      ·rcases hzf with hzf | ⟨hzf,hk1,_⟩<;>first | (exfalso;omega) | (exfalso;rw[HC.out,HMO.out.2] at hzf;simp at hzf;done) | skip
       all_goals
        have hk2:((k - (a):Nat):Int)<=1:=by omega
        have hzg:((((s.extract (a) k)[0]'hd1).toNat:Int) == 48)=true:=by rw[hzf];rfl
        clear hk1 hzf
        rcases hgd with hg | ⟨hg,hg2 | ⟨hg2,hg3⟩⟩
        all_goals
         go_wp2_with fail
         refine (HTX.out _).mono ?_
         rintro e w1 ⟨rfl,hb1⟩
         have hb1':=HB0.out.1.trans (hb1.mono HB0.out.1.size)
         have hblk1:=HB0.out.2.below hb1 (by simp)
         have r0:=hblk1.cell 0
         have r1:=hblk1.cell 1
         have r2:=hblk1.cell 2
         have z0:=hblk1.frozen 0
         have z1:=hblk1.frozen 1
         have z2:=hblk1.frozen 2
         simp at r0 r1 r2
         go_wp2_with fail
         go_loop [11,12] (fun vn vi=>∃ (j m:Nat),j<=k - (a)/\vi=.int .i64 j/\vn=.int .u64 m/\Hid (m=dval 0 (D.take j))) (fun _ vi=>(k - (a)) - (intOf vi).toNat)
         case atStart=>exact⟨0,0,Nat.zero_le _,rfl,rfl,Lib.hid (by rw[List.take_zero,dval_nil])⟩
         case round =>
          obtain⟨j,m,hj,rfl,rfl,HM⟩:=hrel
          by_cases hjl:j<k - (a)
          ·obtain⟨hjs,hjb,⟨hj1,hj2⟩,hjn,hjm⟩:=HDJ.out j hjl
           have HJN:=Lib.hid (And.intro hjn hjm)
           have hmm:(m:Int) * 10+(bt D j - 48)<=9223372036854775808:=by have:=HM.out;have:=HLE.out;omega
           clear hjn hjm
           generalize bt D j=c at *
           go_wp2_with fail
           go_round
           case rel=>exact⟨j+1,m * 10+(c - 48).toNat,by omega,by go_num,congrArg (Value.int .u64) (by omega),Lib.hid (by rw[HM.out];exact HJN.out.1.symm)⟩
           case measure=>simp [intOf];omega
          ·have hje:j=k - (a):=by omega
           subst hje
           have hm1:m=dval 0 D:=by rw[HM.out,HF.out]
           have hm2:m<=9223372036854775807:=by rw[hm1];exact HLE.out
           have HR2:Hid (refNum l a (a)=⟨1,(m:Int),[],(k:Int),0⟩):=Lib.hid (by rw[hm1];exact HRES.out)
           have hconv:wrap64 (IntKind.u64.wrap (-(m:Int))) = -(m:Int):=by rw[IntKind.wrap_u64];unfold wrap64;omega
           clear hm1
           go_wp2_with fail
           refine bodyPost_ret (v:=(⟨1,(m:Int),[],(k:Int),0⟩:Res).v) (by simp [results,Tryz.results141,go_sem, *];rfl) rfl ⟨by rw[HR2.out],bstore3 hb1' _ _ _⟩
set_option maxHeartbeats 16000000 in
set_option maxRecDepth 100000 in
theorem refMinusBada (s:ByteArray) (a:Nat) (w:World) (ha:a<s.size) (hs2:s.size<=281474976710656) (hm:bt s.data.toList a=45) (hq:bt s.data.toList a≠34) (hmo:(refNum s.data.toList a (a+1)).e≠0/\bt s.data.toList (a+1)=48) :
 Calls Tryz.prog 141 #[.string s,.int .i64 a] w fun e w'=>e=.returned (refNum s.data.toList a (a+1)).v/\Below w.heap.size w w':=by
 have HMO:=Lib.hid hmo
 clear hmo
 have hsl:s.data.toList.length=s.size:=rfl
 have HSL:=Lib.hid hsl
 have hbt:=bt_of s a ha
 generalize hL:s.data.toList=l at *
 have HL:=Lib.hid hL
 have q0:((a:Int) == (s.size:Int))=false:=beq_eq_false_iff_ne.2 (by omega)
 have q0':(a == s.size)=false:=beq_eq_false_iff_ne.2 (by omega)
 have q1:(((s[a]'ha).toNat:Int) == 34)=false:=by rw[hbt];exact beq_eq_false_iff_ne.2 hq
 have q2:(((s[a]'ha).toNat:Int) == 45)=true:=by rw[hbt];rw[hm];rfl
 have HQ:=Lib.hid (And.intro hm hq)
 have hB0:Below w.heap.size w (w.alloc (.cells #[.int .i64 0,.int .i64 0,.string ⟨#[]⟩] 69)):=balloc (Below.refl _ _) _
 have hblk:Blk (w.alloc (.cells #[.int .i64 0,.int .i64 0,.string ⟨#[]⟩] 69)) w.heap.size 69 #[.int .i64 0,.int .i64 0,.string ⟨#[]⟩]:=Blk.new _ _ _
 have HB0:=Lib.hid (And.intro hB0 hblk)
 clear hsl hbt hL hm hq hB0 hblk
 go_enter Tryz.func141,Tryz.ntmps141
 go_wp2_with fail
 go_loop [8] (fun ix=>∃ (k:Nat),a+1<=k/\k<=s.size/\ix=.int .i64 k/\digs (l.drop (a+1))+(a+1)=k+digs (l.drop k)) (fun ix=>s.size - (intOf ix).toNat)
 case atStart =>
  exact⟨a+1,Nat.le_refl _,by omega,by go_num,by omega⟩
 case round =>
  obtain⟨k,hak,hk,rfl,hrel⟩:=hrel
  have HR:=Lib.hid hrel
  clear hrel
  by_cases hc:k<s.size/\digB (bt l k)=true
  ·obtain⟨hlt,hd⟩:=hc
   have hbt:=bt_of s k hlt
   rw[HL.out] at hbt
   have hst:=digs_step (by have:=HSL.out;omega) hd
   have HST:=Lib.hid hst
   simp only[digB,decide_eq_true_eq] at hd
   obtain⟨d1,d2⟩:=hd
   rw[<-hbt] at d1 d2
   clear hst hbt
   go_wp2_with fail
   go_round
   case rel=>exact⟨k+1,by omega,by omega,by go_num,by have:=HST.out;have:=HR.out;omega⟩
   case measure=>simp [intOf];omega
  ·have hend:digs (l.drop k)=0:=by
    by_cases hlt:k<s.size
    ·exact digs_stop (by have:=HSL.out;omega) (by simpa using fun h=>hc ⟨hlt,h⟩)
    ·rw[List.drop_of_length_le (by have:=HSL.out;omega)];rfl
   have hn:digs (l.drop (a+1))+(a+1)=k:=by have:=HR.out;omega
   have hgd:(¬ k<s.size)∨(∃ h:k<s.size,((s[k]'h).toNat:Int)<48∨(48<=((s[k]'h).toNat:Int)/\57<((s[k]'h).toNat:Int))):=by
    by_cases hlt:k<s.size
    ·refine .inr ⟨hlt,?_⟩
     rw[bt_of s k hlt,HL.out]
     have:¬ digB (bt l k)=true:=fun h=>hc ⟨hlt,h⟩
     simp only[digB,decide_eq_true_eq] at this
     omega
    ·exact .inl hlt
   have hdl:(s.extract (a+1) k).data.toList=(l.drop (a+1)).take (digs (l.drop (a+1))):=by
    rw[Lib.extract_data,HL.out];congr 1;omega
   have hnum:refNum l a (a+1)=if digs (l.drop (a+1))=0 then bad 11
    else if bt l (a+1)=48/\(1<digs (l.drop (a+1))∨a<a+1) then bad 12
    else if 19<digs (l.drop (a+1))∨digs (l.drop (a+1))=19/\0<Lib.compareBytes ((l.drop (a+1)).take (digs (l.drop (a+1)))) mostN then bad 12
    else ⟨1,-(dval 0 ((l.drop (a+1)).take (digs (l.drop (a+1)))):Int),[],(a+1:Nat)+digs (l.drop (a+1)),0⟩:=by
    unfold refNum;simp only[Nat.lt_add_one,if_true]
   have hdig:=dig_take (l:=l.drop (a+1))
   have hdlen:((l.drop (a+1)).take (digs (l.drop (a+1)))).length=digs (l.drop (a+1)):=by
    have:=digs_le (l.drop (a+1))
    rw[List.length_take];omega
   have hd0:0<digs (l.drop (a+1))->bt ((l.drop (a+1)).take (digs (l.drop (a+1)))) 0=bt l (a+1):=by
    intro h
    obtain⟨c,r,hl,hc,hdr⟩:=digs_pos h
    have e:bt (l.drop (a+1)) 0=bt l (a+1):=by rw[bt_drop,Nat.add_zero]
    rw[<-e,hdr,hl,Nat.add_comm 1,List.take_succ_cons,bt0,bt0]
   generalize hDd:(l.drop (a+1)).take (digs (l.drop (a+1)))=D at *
   generalize digs (l.drop (a+1))=n at *
   have hke:k=a+1+n:=by omega
   have HKE:=Lib.hid hke
   have HNUM:=Lib.hid hnum
   have HDL:=Lib.hid hdl
   have HDIG:=Lib.hid hdig
   have HLEN:=Lib.hid hdlen
   have HD0:=Lib.hid hd0
   have r0:=HB0.out.2.cell 0
   have r1:=HB0.out.2.cell 1
   have r2:=HB0.out.2.cell 2
   have z0:=HB0.out.2.frozen 0
   have z1:=HB0.out.2.frozen 1
   have z2:=HB0.out.2.frozen 2
   simp only[List.getElem?_toArray,List.getElem?_cons_zero,List.getElem?_cons_succ] at r0 r1 r2
   clear hc hend hn hnum hdl hdig hdlen hd0 hDd hke
   by_cases hn0:n=0
   ·subst hn0
    have hres:refNum l a (a+1)=bad 11:=by rw[HNUM.out,if_pos rfl]
    have HRES:=Lib.hid hres
    obtain rfl:k=a+1:=HKE.out
    clear hres
    rcases hgd with hg | ⟨hg,hg2 | ⟨hg2,hg3⟩⟩
    all_goals
     try go_wp2_with fail
    all_goals
     refine bodyPost_ret (v:=(bad 11).v) (by simp [results,Tryz.results141,go_sem, *];rfl) rfl ⟨by rw[HRES.out],HB0.out.1⟩
   ·have hkf:a+1<k:=by have:=HKE.out;omega
    have hkz:((k:Int) == (a+1))=false:=beq_eq_false_iff_ne.2 (by omega)
    have hkz2:(k == a+1)=false:=beq_eq_false_iff_ne.2 (by omega)
    have hdz:(s.extract (a+1) k).size=n:=by rw[Lib.size_eq,HDL.out,HLEN.out]
    have hd1:0<(s.extract (a+1) k).size:=by omega
    have hdb:(((s.extract (a+1) k)[0]'hd1).toNat:Int)=bt l (a+1):=by rw[bt_of _ 0 hd1,HDL.out];exact HD0.out (by omega)
    have hk0:0<k - (a+1):=by omega
    have hkn:k - (a+1)=n:=by have:=HKE.out;omega
    have HDZ:=Lib.hid hdz
    clear hdz
    by_cases hz:bt l (a+1)=48/\(1<n∨a<a+1)
    ·have hres:refNum l a (a+1)=bad 12:=by rw[HNUM.out,if_neg hn0,if_pos hz]
     have HRES:=Lib.hid hres
     obtain⟨hz1,hz2⟩:=hz
     rw[hz1] at hdb
     clear hres hz1
     rcases Nat.lt_or_ge 1 (k - (a+1)) with hz3 | hz3
     all_goals
      rcases hgd with hg | ⟨hg,hg2 | ⟨hg2,hg3⟩⟩
      all_goals
       go_wp2_with fail
       refine bodyPost_ret (v:=(bad 12).v) (by simp [results,Tryz.results141,go_sem, *];rfl) rfl ⟨by rw[HRES.out],HB0.out.1⟩
    ·exfalso;have hx:=HMO.out.2;omega
end Go.Proofs.YtamjadghncnbcaaGreatDoor
