/- slices.IndexFunc, ContainsFunc at osier/api.Relation, walked, told by the place (printed by idxn.py). slices.IndexFunc, ContainsFunc at osier/api.Query, walked, told by the place (printed by idxn.py). dump.check: its closures, and what slices' functions tell over them. A part of a slice of rows. -/
import Derived.Test.YtgopfpjinohncaaGreatDoorGbL
import Derived.Test.YtgopfpjinohncaaGreatDoorRaL
import Derived.Test.YtgopfpjinohncaaGreatDoorCiL
import Derived.Test.YtgopfpjinohncaaGreatDoorRxL
import Derived.Test.YtgopfpjinohncaaGreatDoorRwsZL
import Derived.Shelf.Abstract
namespace Go.Proofs.YtgopfpjinohncaaGreatDoor
open Go.RowKit
set_option linter.unusedVariables false
set_option maxHeartbeats 4000000 in
set_option maxRecDepth 100000 in
theorem indexN_Rln (g:Nat) (lb:Array Value) (eg:∀ args w,(callFunc g args).run Tryz.prog w=.ok (.enter g args) w) (p:Nat->Bool) (w:World) (v:Value) (xs:List (List Value)) (h:RowAt w v 2 xs) (hl:∀ x∈xs,x.length=2)
 (hf:∀ (W:World) (k:Nat) (x:List Value),Below w.heap.size w W->xs[k]? = some x->Calls Tryz.prog g (#[.agg x.toArray]++lb) W fun e W'=>e=.returned (.bool (p k))/\Below W.heap.size W W') :
 Calls Tryz.prog 82 #[v,.func (.func g) #[] lb] w fun e w'=>(∃ q:Int,e=.returned (.int .i64 q)/\decide (0<=q)=(List.range xs.length).any p)/\Below w.heap.size w w':=by
 obtain⟨ad,cap,rfl,hnc,hcm⟩:=h.form
 have hln:=h.len
 have HR:=Lib.hid h
 have HL:=Lib.hid hl
 have HF:=Lib.hid hf
 unfold maxLen at hcm
 generalize hn:xs.length=n at *
 have HN:=Lib.hid hn
 clear h hl hf hn
 go_enter Tryz.func82,Tryz.ntmps82
 go_wp2_with fail
 go_loopw [5,8] (fun _ i wr=>∃ k:Nat,k<=n/\i=.int .i64 k/\Hid (Below w.heap.size w wr)/\Hid (∀ j,j<k->p j=false)) (fun _ i _=>n - (intOf i).toNat)
 case atStart=>exact⟨0,Nat.zero_le _,rfl,Lib.hid (Below.refl _ _),Lib.hid (fun j hj=>by omega)⟩
 case round =>
  obtain⟨k,hk,rfl,HB,HP⟩:=hrel
  by_cases hlt:k<n
  ·obtain⟨x,hx⟩:∃ x,xs[k]? = some x:=⟨xs[k]'(by rw[HN.out];exact hlt),List.getElem?_eq_getElem (by rw[HN.out];exact hlt)⟩
   have hm:x∈xs:=List.mem_of_getElem? hx
   obtain⟨b,off,cap',hv,_,_,hbl,hce⟩:=(HR.out.keep HB.out).get hx
   rw[HN.out] at hv
   simp only[Value.slice.injEq,true_and] at hv
   obtain⟨rfl,rfl⟩:=hv
   obtain⟨e0,e1,rfl⟩:=len2 (HL.out x hm)
   have q0:=hce 0 e0 rfl
   have q1:=hce 1 e1 rfl
   simp only[Nat.add_zero] at q0 q1
   have hcall:=HF.out wr k _ HB.out hx
   clear hce hm hx
   cases hq:p k with
   | true =>
     rw[hq] at hcall
     have HC:=Lib.hid hcall
     have HQ:=Lib.hid hq
     clear hcall hq
     go_wp2_with fail
     refine HC.out.mono ?_
     rintro e w' ⟨rfl,hb'⟩
     have HB':=Lib.hid hb'
     clear hb'
     go_wp2_with fail
     go_ret
     refine⟨⟨k,rfl,?_⟩,HB.out.trans (HB'.out.mono HB.out.size)⟩
     rw[decide_eq_true (Int.natCast_nonneg k)]
     exact (List.any_eq_true.2 ⟨k,List.mem_range.2 hlt,HQ.out⟩).symm
   | false =>
     rw[hq] at hcall
     have HC:=Lib.hid hcall
     have HQ:=Lib.hid hq
     clear hcall hq
     go_wp2_with fail
     refine HC.out.mono ?_
     rintro e w' ⟨rfl,hb'⟩
     have HB':=Lib.hid hb'
     clear hb'
     go_wp2_with fail
     go_roundw
     case rel =>
      refine⟨k+1,by omega,by go_num,Lib.hid (HB.out.trans (HB'.out.mono HB.out.size)),Lib.hid (fun j hj=>?_)⟩
      rcases Nat.lt_or_ge j k with h1 | h1
      ·exact HP.out j h1
      ·obtain rfl:j=k:=by omega
       exact HQ.out
     case measure=>simp [intOf];omega
  ·obtain rfl:k=n:=by omega
   go_wp2_with fail
   go_ret
   refine⟨⟨-1,rfl,?_⟩,HB.out⟩
   rw[show decide ((0:Int) <= -1)=false from by decide]
   refine (List.any_eq_false.2 fun j hj=>?_).symm
   rw[HP.out j (List.mem_range.1 hj)]
   decide
set_option maxHeartbeats 4000000 in
set_option maxRecDepth 100000 in
theorem containsN_Rln (g:Nat) (lb:Array Value) (eg:∀ args w,(callFunc g args).run Tryz.prog w=.ok (.enter g args) w) (p:Nat->Bool) (w:World) (v:Value) (xs:List (List Value)) (h:RowAt w v 2 xs) (hl:∀ x∈xs,x.length=2)
 (hf:∀ (W:World) (k:Nat) (x:List Value),Below w.heap.size w W->xs[k]? = some x->Calls Tryz.prog g (#[.agg x.toArray]++lb) W fun e W'=>e=.returned (.bool (p k))/\Below W.heap.size W W') :
 Calls Tryz.prog 80 #[v,.func (.func g) #[] lb] w fun e w'=>e=.returned (.bool ((List.range xs.length).any p))/\Below w.heap.size w w':=by
 have HI:=Lib.hid (indexN_Rln g lb eg p w v xs h hl hf)
 clear h hl hf
 generalize (List.range xs.length).any p=R at *
 go_enter Tryz.func80,Tryz.ntmps80
 go_wp2_with fail
 refine HI.out.mono ?_
 rintro e w' ⟨⟨q,rfl,hq⟩,hb'⟩
 have HB':=Lib.hid hb'
 clear hb'
 go_wp2_with fail
 go_ret
 exact⟨by first | rfl | simp,HB'.out⟩
set_option maxHeartbeats 4000000 in
set_option maxRecDepth 100000 in
theorem indexN_Qry (g:Nat) (lb:Array Value) (eg:∀ args w,(callFunc g args).run Tryz.prog w=.ok (.enter g args) w) (p:Nat->Bool) (w:World) (v:Value) (xs:List (List Value)) (h:RowAt w v 3 xs) (hl:∀ x∈xs,x.length=3)
 (hf:∀ (W:World) (k:Nat) (x:List Value),Below w.heap.size w W->xs[k]? = some x->Calls Tryz.prog g (#[.agg x.toArray]++lb) W fun e W'=>e=.returned (.bool (p k))/\Below W.heap.size W W') :
 Calls Tryz.prog 171 #[v,.func (.func g) #[] lb] w fun e w'=>(∃ q:Int,e=.returned (.int .i64 q)/\decide (0<=q)=(List.range xs.length).any p)/\Below w.heap.size w w':=by
 obtain⟨ad,cap,rfl,hnc,hcm⟩:=h.form
 have hln:=h.len
 have HR:=Lib.hid h
 have HL:=Lib.hid hl
 have HF:=Lib.hid hf
 unfold maxLen at hcm
 generalize hn:xs.length=n at *
 have HN:=Lib.hid hn
 clear h hl hf hn
 go_enter Tryz.func171,Tryz.ntmps171
 go_wp2_with fail
 go_loopw [5,8] (fun _ i wr=>∃ k:Nat,k<=n/\i=.int .i64 k/\Hid (Below w.heap.size w wr)/\Hid (∀ j,j<k->p j=false)) (fun _ i _=>n - (intOf i).toNat)
 case atStart=>exact⟨0,Nat.zero_le _,rfl,Lib.hid (Below.refl _ _),Lib.hid (fun j hj=>by omega)⟩
 case round =>
  obtain⟨k,hk,rfl,HB,HP⟩:=hrel
  by_cases hlt:k<n
  ·obtain⟨x,hx⟩:∃ x,xs[k]? = some x:=⟨xs[k]'(by rw[HN.out];exact hlt),List.getElem?_eq_getElem (by rw[HN.out];exact hlt)⟩
   have hm:x∈xs:=List.mem_of_getElem? hx
   obtain⟨b,off,cap',hv,_,_,hbl,hce⟩:=(HR.out.keep HB.out).get hx
   rw[HN.out] at hv
   simp only[Value.slice.injEq,true_and] at hv
   obtain⟨rfl,rfl⟩:=hv
   obtain⟨e0,e1,e2,rfl⟩:=len3 (HL.out x hm)
   have q0:=hce 0 e0 rfl
   have q1:=hce 1 e1 rfl
   have q2:=hce 2 e2 rfl
   simp only[Nat.add_zero] at q0 q1 q2
   have hcall:=HF.out wr k _ HB.out hx
   clear hce hm hx
   cases hq:p k with
   | true =>
     rw[hq] at hcall
     have HC:=Lib.hid hcall
     have HQ:=Lib.hid hq
     clear hcall hq
     go_wp2_with fail
     refine HC.out.mono ?_
     rintro e w' ⟨rfl,hb'⟩
     have HB':=Lib.hid hb'
     clear hb'
     go_wp2_with fail
     go_ret
     refine⟨⟨k,rfl,?_⟩,HB.out.trans (HB'.out.mono HB.out.size)⟩
     rw[decide_eq_true (Int.natCast_nonneg k)]
     exact (List.any_eq_true.2 ⟨k,List.mem_range.2 hlt,HQ.out⟩).symm
   | false =>
     rw[hq] at hcall
     have HC:=Lib.hid hcall
     have HQ:=Lib.hid hq
     clear hcall hq
     go_wp2_with fail
     refine HC.out.mono ?_
     rintro e w' ⟨rfl,hb'⟩
     have HB':=Lib.hid hb'
     clear hb'
     go_wp2_with fail
     go_roundw
     case rel =>
      refine⟨k+1,by omega,by go_num,Lib.hid (HB.out.trans (HB'.out.mono HB.out.size)),Lib.hid (fun j hj=>?_)⟩
      rcases Nat.lt_or_ge j k with h1 | h1
      ·exact HP.out j h1
      ·obtain rfl:j=k:=by omega
       exact HQ.out
     case measure=>simp [intOf];omega
  ·obtain rfl:k=n:=by omega
   go_wp2_with fail
   go_ret
   refine⟨⟨-1,rfl,?_⟩,HB.out⟩
   rw[show decide ((0:Int) <= -1)=false from by decide]
   refine (List.any_eq_false.2 fun j hj=>?_).symm
   rw[HP.out j (List.mem_range.1 hj)]
   decide
set_option maxHeartbeats 4000000 in
set_option maxRecDepth 100000 in
theorem containsN_Qry (g:Nat) (lb:Array Value) (eg:∀ args w,(callFunc g args).run Tryz.prog w=.ok (.enter g args) w) (p:Nat->Bool) (w:World) (v:Value) (xs:List (List Value)) (h:RowAt w v 3 xs) (hl:∀ x∈xs,x.length=3)
 (hf:∀ (W:World) (k:Nat) (x:List Value),Below w.heap.size w W->xs[k]? = some x->Calls Tryz.prog g (#[.agg x.toArray]++lb) W fun e W'=>e=.returned (.bool (p k))/\Below W.heap.size W W') :
 Calls Tryz.prog 86 #[v,.func (.func g) #[] lb] w fun e w'=>e=.returned (.bool ((List.range xs.length).any p))/\Below w.heap.size w w':=by
 have HI:=Lib.hid (indexN_Qry g lb eg p w v xs h hl hf)
 clear h hl hf
 generalize (List.range xs.length).any p=R at *
 go_enter Tryz.func86,Tryz.ntmps86
 go_wp2_with fail
 refine HI.out.mono ?_
 rintro e w' ⟨⟨q,rfl,hq⟩,hb'⟩
 have HB':=Lib.hid hb'
 clear hb'
 go_wp2_with fail
 go_ret
 exact⟨by first | rfl | simp,HB'.out⟩
theorem dclo1_any (W:World) (bx:Nat) (nm:List UInt8) (u:Value) (s:ByteArray) (cv:Value) (hx:Blk W bx 57 #[.string ⟨nm.toArray⟩,u]) :
 Calls Tryz.prog 81 #[.agg #[.string s,cv],.pointer (some ⟨bx,0,none⟩)] W fun e w'=>e=.returned (.bool (s.data.toList == nm))/\Below W.heap.size W w':=by
 have x1:=hx.cell 0
 have xl:=hx.lt
 simp only[List.getElem?_toArray,List.getElem?_cons_zero] at x1
 have hb0:Below W.heap.size W (W.alloc (.cells #[.string s,cv] 57)):=balloc (Below.refl _ _) _
 have HB0:=Lib.hid hb0
 obtain⟨l⟩:=s
 obtain⟨l⟩:=l
 have hsd:(⟨⟨l⟩⟩:ByteArray).data.toList=l:=rfl
 rw[hsd]
 have HX:=Lib.hid hx
 clear hx hb0 hsd
 go_enter Tryz.func81,Tryz.ntmps81
 go_wp2_with fail
 go_ret
 exact⟨by first | rfl | simp,HB0.out⟩
theorem dclo2_any (W:World) (bx:Nat) (nm:List UInt8) (u:Value) (s:ByteArray) (cv:Value) (hx:Blk W bx 47 #[.string ⟨nm.toArray⟩,u]) :
 Calls Tryz.prog 83 #[.agg #[.string s,cv],.pointer (some ⟨bx,0,none⟩)] W fun e w'=>e=.returned (.bool (s.data.toList == nm))/\Below W.heap.size W w':=by
 have x1:=hx.cell 0
 have xl:=hx.lt
 simp only[List.getElem?_toArray,List.getElem?_cons_zero] at x1
 have hb0:Below W.heap.size W (W.alloc (.cells #[.string s,cv] 57)):=balloc (Below.refl _ _) _
 have HB0:=Lib.hid hb0
 obtain⟨l⟩:=s
 obtain⟨l⟩:=l
 have hsd:(⟨⟨l⟩⟩:ByteArray).data.toList=l:=rfl
 rw[hsd]
 have HX:=Lib.hid hx
 clear hx hb0 hsd
 go_enter Tryz.func83,Tryz.ntmps83
 go_wp2_with fail
 go_ret
 exact⟨by first | rfl | simp,HB0.out⟩
theorem dclo3_any (W:World) (bx:Nat) (nm:List UInt8) (u u2:Value) (s:ByteArray) (hv av:Value) (hx:Blk W bx 50 #[.string ⟨nm.toArray⟩,u,u2]) :
 Calls Tryz.prog 87 #[.agg #[.string s,hv,av],.pointer (some ⟨bx,0,none⟩)] W fun e w'=>e=.returned (.bool (s.data.toList == nm))/\Below W.heap.size W w':=by
 have x1:=hx.cell 0
 have xl:=hx.lt
 simp only[List.getElem?_toArray,List.getElem?_cons_zero] at x1
 have hb0:Below W.heap.size W (W.alloc (.cells #[.string s,hv,av] 50)):=balloc (Below.refl _ _) _
 have HB0:=Lib.hid hb0
 obtain⟨l⟩:=s
 obtain⟨l⟩:=l
 have hsd:(⟨⟨l⟩⟩:ByteArray).data.toList=l:=rfl
 rw[hsd]
 have HX:=Lib.hid hx
 clear hx hb0 hsd
 go_enter Tryz.func87,Tryz.ntmps87
 go_wp2_with fail
 go_ret
 exact⟨by first | rfl | simp,HB0.out⟩
theorem all2_take2 {α β:Type} {R:α->β->Prop}:∀ (n:Nat) {l:List α} {m:List β},All2 R l m->All2 R (l.take n) (m.take n)
 | 0,_,_,_=>trivial
 | _+1,[],[],_=>trivial
 | n+1,_::_,_::_,h=>⟨h.1,all2_take2 n h.2⟩
 | _+1,[],_::_,h=>h.elim
 | _+1,_::_,[],h=>h.elim
theorem RelsAt.take {w:World} {v:Value} {l:List Rln} (h:RelsAt w v l) {n:Nat} (hn:n<=l.length) {ad:Option Addr} {cap:Nat} (hv:v=.slice ad l.length cap):RelsAt w (.slice ad n cap) (l.take n):=by
 obtain⟨rows,h1,h2⟩:=h
 rw[<-h2.length] at hv hn
 exact⟨rows.take n,h1.take hn hv,all2_take2 n h2⟩
theorem QrysAt.take {w:World} {v:Value} {l:List Qry} (h:QrysAt w v l) {n:Nat} (hn:n<=l.length) {ad:Option Addr} {cap:Nat} (hv:v=.slice ad l.length cap):QrysAt w (.slice ad n cap) (l.take n):=by
 obtain⟨rows,h1,h2⟩:=h
 rw[<-h2.length] at hv hn
 exact⟨rows.take n,h1.take hn hv,all2_take2 n h2⟩
theorem taken_any (W:World) (v:Value) (d:List Rln) (h:RelsAt W v d) (bx:Nat) (nm:List UInt8) (u:Value) (hx:Blk W bx 57 #[.string ⟨nm.toArray⟩,u]) :
 Calls Tryz.prog 80 #[v,.func (.func 81) #[] #[.pointer (some ⟨bx,0,none⟩)]] W fun e w'=>e=.returned (.bool (d.any fun s=>s.name == nm))/\Below W.heap.size W w':=by
 obtain⟨rows,h1,h2⟩:=h
 have hll:=h2.length
 have hc:=containsN_Rln 81 #[.pointer (some ⟨bx,0,none⟩)] (enters_of Tryz.func81 (by kernel_rfl) rfl) (atP d fun s=>s.name == nm) W v rows h1 (fun x hx=>by
  obtain⟨r,_,cv,rfl,_⟩:=all2_mem h2 x hx
  rfl) (fun W' k x hW hxk=>by
  obtain⟨r,hr⟩:∃ r,d[k]? = some r:=⟨d[k]'(by rw[<-hll];exact (List.getElem?_eq_some_iff.1 hxk).1),List.getElem?_eq_getElem _⟩
  obtain⟨x',hx',cv,rfl,_⟩:=h2.get hr
  rw[hxk] at hx'
  obtain rfl:=Option.some.inj hx'
  rw[atP_some hr]
  exact dclo1_any W' bx nm u ⟨r.name.toArray⟩ cv (hx.below hW hx.lt))
 rw[range_any d _ hll] at hc
 exact hc
theorem takenQ_any (W:World) (v:Value) (d:List Qry) (h:QrysAt W v d) (bx:Nat) (nm:List UInt8) (u u2:Value) (hx:Blk W bx 50 #[.string ⟨nm.toArray⟩,u,u2]) :
 Calls Tryz.prog 86 #[v,.func (.func 87) #[] #[.pointer (some ⟨bx,0,none⟩)]] W fun e w'=>e=.returned (.bool (d.any fun s=>s.name == nm))/\Below W.heap.size W w':=by
 obtain⟨rows,h1,h2⟩:=h
 have hll:=h2.length
 have hc:=containsN_Qry 87 #[.pointer (some ⟨bx,0,none⟩)] (enters_of Tryz.func87 (by kernel_rfl) rfl) (atP d fun s=>s.name == nm) W v rows h1 (fun x hx=>by
  obtain⟨r,_,hv,av,rfl,_⟩:=all2_mem h2 x hx
  rfl) (fun W' k x hW hxk=>by
  obtain⟨r,hr⟩:∃ r,d[k]? = some r:=⟨d[k]'(by rw[<-hll];exact (List.getElem?_eq_some_iff.1 hxk).1),List.getElem?_eq_getElem _⟩
  obtain⟨x',hx',hv,av,rfl,_⟩:=h2.get hr
  rw[hxk] at hx'
  obtain rfl:=Option.some.inj hx'
  rw[atP_some hr]
  exact dclo3_any W' bx nm u u2 ⟨r.name.toArray⟩ hv av (hx.below hW hx.lt))
 rw[range_any d _ hll] at hc
 exact hc
theorem dplace_any (W:World) (v:Value) (d:List Rln) (h:RelsAt W v d) (bx:Nat) (nm:List UInt8) (u:Value) (hx:Blk W bx 47 #[.string ⟨nm.toArray⟩,u]) :
 Calls Tryz.prog 82 #[v,.func (.func 83) #[] #[.pointer (some ⟨bx,0,none⟩)]] W fun e w'=>e=.returned (.int .i64 (plI d nm))/\Below W.heap.size W w':=by
 obtain⟨rows,h1,h2⟩:=h
 have hix:=indexFunc_Rel 83 #[.pointer (some ⟨bx,0,none⟩)] (enters_of Tryz.func83 (by kernel_rfl) rfl) (nmP nm) W v rows h1 (fun x hx=>by
  obtain⟨r,_,cv,rfl,_⟩:=all2_mem h2 x hx
  rfl) (fun W' x hW hxm=>by
  obtain⟨r,_,cv,rfl,_⟩:=all2_mem h2 x hxm
  exact dclo2_any W' bx nm u ⟨r.name.toArray⟩ cv (hx.below hW hx.lt))
 rw[idxP_rel h2] at hix
 exact hix
theorem RowAt.drop {w:World} {sz b off n cap:Nat} {xs:List (List Value)} (h:RowAt w (.slice (some ⟨b,off,none⟩) n cap) sz xs) (k:Nat) (hk:k<=n):RowAt w (.slice (some ⟨b,off+k * sz,none⟩) (n - k) (cap - k)) sz (xs.drop k):=by
 obtain⟨h1,ad',cap',hv',h2,h3,h4⟩:=h
 simp only[Value.slice.injEq] at hv'
 obtain⟨rfl,rfl,rfl⟩:=hv'
 have hl:(xs.drop k).length=xs.length - k:=List.length_drop
 refine⟨by omega,_,_,by rw[hl],by omega,by omega,?_⟩
 rcases h4 with h4 | ⟨b',off',e,h5,h6⟩
 ·subst h4;exact .inl (by simp)
 ·simp only[Option.some.injEq,Addr.mk.injEq,and_true] at e
  obtain⟨rfl,rfl⟩:=e
  refine .inr ⟨b,off+k * sz,rfl,h5,fun i j x u hx hu=>?_⟩
  rw[List.getElem?_drop] at hx
  have:=h6 (k+i) j x u hx hu
  rw[Nat.add_mul,<-Nat.add_assoc] at this
  exact this
theorem all2_drop2 {α β:Type} {R:α->β->Prop}:∀ (n:Nat) {l:List α} {m:List β},All2 R l m->All2 R (l.drop n) (m.drop n)
 | 0,_,_,h=>h
 | n+1,[],[],_=>trivial
 | n+1,_::_,_::_,h=>all2_drop2 n h.2
 | n+1,[],_::_,h=>h.elim
 | n+1,_::_,[],h=>h.elim
theorem RowsAt.take {w:World} {b off n cap:Nat} {l:List (List Vl)} (h:RowsAt w (.slice (some ⟨b,off,none⟩) n cap) l) (k:Nat) (hk:k<=n):RowsAt w (.slice (some ⟨b,off,none⟩) k cap) (l.take k):=by
 obtain⟨rows,h1,h2⟩:=h
 obtain⟨ad,cap',hv,_,_⟩:=h1.form
 simp only[Value.slice.injEq] at hv
 obtain⟨rfl,rfl,rfl⟩:=hv
 exact⟨rows.take k,h1.take hk rfl,all2_take2 k h2⟩
theorem RowsAt.drop {w:World} {b off n cap:Nat} {l:List (List Vl)} (h:RowsAt w (.slice (some ⟨b,off,none⟩) n cap) l) (k:Nat) (hk:k<=n):RowsAt w (.slice (some ⟨b,off+k,none⟩) (n - k) (cap - k)) (l.drop k):=by
 obtain⟨rows,h1,h2⟩:=h
 have:=h1.drop k hk
 rw[Nat.mul_one] at this
 exact⟨rows.drop k,this,all2_drop2 k h2⟩
end Go.Proofs.YtgopfpjinohncaaGreatDoor
