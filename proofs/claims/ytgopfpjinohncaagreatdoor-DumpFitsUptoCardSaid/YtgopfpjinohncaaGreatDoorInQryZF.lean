/- slices.IndexFunc, ContainsFunc at osier/api.Query, walked, told by the place (printed. -/
import Derived.Test.YtgopfpjinohncaaGreatDoorTblZF
import Derived.Test.YtgopfpjinohncaaGreatDoorDfiZF
import Derived.Test.YtgopfpjinohncaaGreatDoorQvF
set_option maxHeartbeats 16000000
set_option maxRecDepth 100000
set_option linter.unusedVariables false
namespace Go.Proofs.YtgopfpjinohncaaGreatDoor
open Go.Proofs.Tryz
open Go.RowKit
theorem vy (g:Nat) (lb:Array Value) (eg:∀ args w,(callFunc g args).run prog w=.ok (.enter g args) w) (p:Nat->Bool) (w:World) (v:Value) (xs:List (List Value)) (h:aj w v 3 xs) (hl:∀ x∈xs,x.length=3)
 (hf:∀ (W:World) (k:Nat) (x:List Value),Below w.heap.size w W->xs[k]? = some x->Calls prog g (#[.agg x.toArray]++lb) W fun e W'=>e=.returned (.bool (p k))/\Below W.heap.size W W') :
 Calls prog 171 #[v,.func (.func g) #[] lb] w fun e w'=>(∃ q:Int,e=.returned (.int .i64 q)/\decide (0<=q)=(List.range xs.length).any p)/\Below w.heap.size w w':=by
 obtain⟨ad,cap,rfl,hnc,hcm⟩:=h.form
 have hln:=h.len
 have HR:=Fx h
 have HL:=Fx hl
 have HF:=Fx hf
 unfold maxLen at hcm
 generalize hn:xs.length=n at *
 have HN:=Fx hn
 clear h hl hf hn
 go_enter func171,ntmps171
 go_wp2_with fail
 go_loopw [5,8] (fun _ i wr=>∃ k:Nat,k<=n/\i=.int .i64 k/\Hid (Below w.heap.size w wr)/\Hid (∀ j,j<k->p j=false)) (fun _ i _=>n - (intOf i).toNat)
 case atStart=>exact⟨0,Fz,rfl,Fx Fy,Fx (fun j hj=>by omega)⟩
 case round =>
  obtain⟨k,hk,rfl,HB,HP⟩:=hrel
  by_cases hlt:k<n
  ·obtain⟨x,hx⟩:∃ x,xs[k]? = some x:=⟨xs[k]'(by rw[HN.out];exact hlt),FD (by rw[HN.out];exact hlt)⟩
   have hm:x∈xs:=FC hx
   obtain⟨b,off,cap',hv,_,_,hbl,hce⟩:=(HR.out.keep HB.out).get hx
   rw[HN.out] at hv
   simp only[Value.slice.injEq,true_and] at hv
   obtain⟨rfl,rfl⟩:=hv
   obtain⟨e0,e1,e2,rfl⟩:=te (HL.out x hm)
   have q0:=hce 0 e0 rfl
   have q1:=hce 1 e1 rfl
   have q2:=hce 2 e2 rfl
   simp only[Nat.add_zero] at q0 q1 q2
   have hcall:=HF.out wr k _ HB.out hx
   clear hce hm hx
   cases hq:p k with
   | true =>
     rw[hq] at hcall
     have HC:=Fx hcall
     have HQ:=Fx hq
     clear hcall hq
     go_wp2_with fail
     refine HC.out.mono ?_
     rintro e w' ⟨rfl,hb'⟩
     have HB':=Fx hb'
     clear hb'
     go_wp2_with fail
     go_ret
     refine⟨⟨k,rfl,?_⟩,HB.out.trans (HB'.out.mono HB.out.size)⟩
     rw[decide_eq_true (Int.natCast_nonneg k)]
     exact (List.any_eq_true.2 ⟨k,List.mem_range.2 hlt,HQ.out⟩).symm
   | false =>
     rw[hq] at hcall
     have HC:=Fx hcall
     have HQ:=Fx hq
     clear hcall hq
     go_wp2_with fail
     refine HC.out.mono ?_
     rintro e w' ⟨rfl,hb'⟩
     have HB':=Fx hb'
     clear hb'
     go_wp2_with fail
     go_roundw
     case rel =>
      refine⟨k+1,by omega,by go_num,Fx (HB.out.trans (HB'.out.mono HB.out.size)),Fx (fun j hj=>?_)⟩
      rcases Nat.lt_or_ge j k with h1 | h1
      ·exact HP.out j h1
      ·obtain rfl:j=k:=by omega
       exact HQ.out
     case measure=>simp [intOf];omega
  ·obtain rfl:k=n:=by omega
   go_wp2_with fail
   go_ret
   refine⟨⟨-1,rfl,?_⟩,HB.out⟩
   rw[show decide ((0:Int) <= -1)=false from by decide]
   refine (List.any_eq_false.2 fun j hj=>?_).symm
   rw[HP.out j (List.mem_range.1 hj)]
   decide
theorem oP (g:Nat) (lb:Array Value) (eg:∀ args w,(callFunc g args).run prog w=.ok (.enter g args) w) (p:Nat->Bool) (w:World) (v:Value) (xs:List (List Value)) (h:aj w v 3 xs) (hl:∀ x∈xs,x.length=3)
 (hf:∀ (W:World) (k:Nat) (x:List Value),Below w.heap.size w W->xs[k]? = some x->Calls prog g (#[.agg x.toArray]++lb) W fun e W'=>e=.returned (.bool (p k))/\Below W.heap.size W W') :
 Calls prog 86 #[v,.func (.func g) #[] lb] w fun e w'=>e=.returned (.bool ((List.range xs.length).any p))/\Below w.heap.size w w':=by
 have HI:=Fx (vy g lb eg p w v xs h hl hf)
 clear h hl hf
 generalize (List.range xs.length).any p=R at *
 go_enter func86,ntmps86
 go_wp2_with fail
 refine HI.out.mono ?_
 rintro e w' ⟨⟨q,rfl,hq⟩,hb'⟩
 have HB':=Fx hb'
 clear hb'
 go_wp2_with fail
 go_ret
 exact⟨by first | rfl | simp,HB'.out⟩
theorem yA (W:World) (bx:Nat) (nm:List UInt8) (u:Value) (s:ByteArray) (cv:Value) (hx:af W bx 57 #[.string ⟨nm.toArray⟩,u]) :
 Calls prog 81 #[.agg #[.string s,cv],.pointer (some ⟨bx,0,none⟩)] W fun e w'=>e=.returned (.bool (s.data.toList == nm))/\Below W.heap.size W w':=by
 have x1:=hx.cell 0
 have xl:=hx.lt
 simp only[List.getElem?_toArray,List.getElem?_cons_zero] at x1
 have hb0:Below W.heap.size W (W.alloc (.cells #[.string s,cv] 57)):=ae Fy _
 have HB0:=Fx hb0
 obtain⟨l⟩:=s
 obtain⟨l⟩:=l
 have hsd:(⟨⟨l⟩⟩:ByteArray).data.toList=l:=rfl
 rw[hsd]
 have HX:=Fx hx
 clear hx hb0 hsd
 go_enter func81,ntmps81
 go_wp2_with fail
 go_ret
 exact⟨by first | rfl | simp,HB0.out⟩
theorem yo (W:World) (bx:Nat) (nm:List UInt8) (u:Value) (s:ByteArray) (cv:Value) (hx:af W bx 47 #[.string ⟨nm.toArray⟩,u]) :
 Calls prog 83 #[.agg #[.string s,cv],.pointer (some ⟨bx,0,none⟩)] W fun e w'=>e=.returned (.bool (s.data.toList == nm))/\Below W.heap.size W w':=by
 have x1:=hx.cell 0
 have xl:=hx.lt
 simp only[List.getElem?_toArray,List.getElem?_cons_zero] at x1
 have hb0:Below W.heap.size W (W.alloc (.cells #[.string s,cv] 57)):=ae Fy _
 have HB0:=Fx hb0
 obtain⟨l⟩:=s
 obtain⟨l⟩:=l
 have hsd:(⟨⟨l⟩⟩:ByteArray).data.toList=l:=rfl
 rw[hsd]
 have HX:=Fx hx
 clear hx hb0 hsd
 go_enter func83,ntmps83
 go_wp2_with fail
 go_ret
 exact⟨by first | rfl | simp,HB0.out⟩
theorem yU (W:World) (bx:Nat) (nm:List UInt8) (u u2:Value) (s:ByteArray) (hv av:Value) (hx:af W bx 50 #[.string ⟨nm.toArray⟩,u,u2]) :
 Calls prog 87 #[.agg #[.string s,hv,av],.pointer (some ⟨bx,0,none⟩)] W fun e w'=>e=.returned (.bool (s.data.toList == nm))/\Below W.heap.size W w':=by
 have x1:=hx.cell 0
 have xl:=hx.lt
 simp only[List.getElem?_toArray,List.getElem?_cons_zero] at x1
 have hb0:Below W.heap.size W (W.alloc (.cells #[.string s,hv,av] 50)):=ae Fy _
 have HB0:=Fx hb0
 obtain⟨l⟩:=s
 obtain⟨l⟩:=l
 have hsd:(⟨⟨l⟩⟩:ByteArray).data.toList=l:=rfl
 rw[hsd]
 have HX:=Fx hx
 clear hx hb0 hsd
 go_enter func87,ntmps87
 go_wp2_with fail
 go_ret
 exact⟨by first | rfl | simp,HB0.out⟩
theorem jQ {α β:Type} {R:α->β->Prop}:∀ (n:Nat) {l:List α} {m:List β},aH R l m->aH R (l.take n) (m.take n)
 | 0,_,_,_=>trivial
 | _+1,[],[],_=>trivial
 | n+1,_::_,_::_,h=>⟨h.1,jQ n h.2⟩
 | _+1,[],_::_,h=>h.elim
 | _+1,_::_,[],h=>h.elim
theorem bj.take {w:World} {v:Value} {l:List aU} (h:bj w v l) {n:Nat} (hn:n<=l.length) {ad:Option Addr} {cap:Nat} (hv:v=.slice ad l.length cap):bj w (.slice ad n cap) (l.take n):=by
 obtain⟨rows,h1,h2⟩:=h
 rw[<-h2.length] at hv hn
 exact⟨rows.take n,h1.take hn hv,jQ n h2⟩
theorem bZ.take {w:World} {v:Value} {l:List cf} (h:bZ w v l) {n:Nat} (hn:n<=l.length) {ad:Option Addr} {cap:Nat} (hv:v=.slice ad l.length cap):bZ w (.slice ad n cap) (l.take n):=by
 obtain⟨rows,h1,h2⟩:=h
 rw[<-h2.length] at hv hn
 exact⟨rows.take n,h1.take hn hv,jQ n h2⟩
theorem xQ (W:World) (v:Value) (d:List aU) (h:bj W v d) (bx:Nat) (nm:List UInt8) (u:Value) (hx:af W bx 57 #[.string ⟨nm.toArray⟩,u]) :
 Calls prog 80 #[v,.func (.func 81) #[] #[.pointer (some ⟨bx,0,none⟩)]] W fun e w'=>e=.returned (.bool (d.any fun s=>s.name == nm))/\Below W.heap.size W w':=by
 obtain⟨rows,h1,h2⟩:=h
 have hll:=h2.length
 have hc:=oQ 81 #[.pointer (some ⟨bx,0,none⟩)] (enters_of func81 (by kernel_rfl) rfl) (Dj d fun s=>s.name == nm) W v rows h1 (fun x hx=>by
  obtain⟨r,_,cv,rfl,_⟩:=bm h2 x hx
  rfl) (fun W' k x hW hxk=>by
  obtain⟨r,hr⟩:∃ r,d[k]? = some r:=⟨d[k]'(by rw[<-hll];exact (FE hxk).1),FD _⟩
  obtain⟨x',hx',cv,rfl,_⟩:=h2.get hr
  rw[hxk] at hx'
  obtain rfl:=Option.some.inj hx'
  rw[ev hr]
  exact yA W' bx nm u ⟨r.name.toArray⟩ cv (hx.below hW hx.lt))
 rw[eW d _ hll] at hc
 exact hc
theorem wg (W:World) (v:Value) (d:List cf) (h:bZ W v d) (bx:Nat) (nm:List UInt8) (u u2:Value) (hx:af W bx 50 #[.string ⟨nm.toArray⟩,u,u2]) :
 Calls prog 86 #[v,.func (.func 87) #[] #[.pointer (some ⟨bx,0,none⟩)]] W fun e w'=>e=.returned (.bool (d.any fun s=>s.name == nm))/\Below W.heap.size W w':=by
 obtain⟨rows,h1,h2⟩:=h
 have hll:=h2.length
 have hc:=oP 87 #[.pointer (some ⟨bx,0,none⟩)] (enters_of func87 (by kernel_rfl) rfl) (Dj d fun s=>s.name == nm) W v rows h1 (fun x hx=>by
  obtain⟨r,_,hv,av,rfl,_⟩:=bm h2 x hx
  rfl) (fun W' k x hW hxk=>by
  obtain⟨r,hr⟩:∃ r,d[k]? = some r:=⟨d[k]'(by rw[<-hll];exact (FE hxk).1),FD _⟩
  obtain⟨x',hx',hv,av,rfl,_⟩:=h2.get hr
  rw[hxk] at hx'
  obtain rfl:=Option.some.inj hx'
  rw[ev hr]
  exact yU W' bx nm u u2 ⟨r.name.toArray⟩ hv av (hx.below hW hx.lt))
 rw[eW d _ hll] at hc
 exact hc
theorem vY (W:World) (v:Value) (d:List aU) (h:bj W v d) (bx:Nat) (nm:List UInt8) (u:Value) (hx:af W bx 47 #[.string ⟨nm.toArray⟩,u]) :
 Calls prog 82 #[v,.func (.func 83) #[] #[.pointer (some ⟨bx,0,none⟩)]] W fun e w'=>e=.returned (.int .i64 (oB d nm))/\Below W.heap.size W w':=by
 obtain⟨rows,h1,h2⟩:=h
 have hix:=ju 83 #[.pointer (some ⟨bx,0,none⟩)] (enters_of func83 (by kernel_rfl) rfl) (EJ nm) W v rows h1 (fun x hx=>by
  obtain⟨r,_,cv,rfl,_⟩:=bm h2 x hx
  rfl) (fun W' x hW hxm=>by
  obtain⟨r,_,cv,rfl,_⟩:=bm h2 x hxm
  exact yo W' bx nm u ⟨r.name.toArray⟩ cv (hx.below hW hx.lt))
 rw[rG h2] at hix
 exact hix
theorem AM {d:List aU} {j:Nat} {r:aU} (h:d[j]? = some r):fF (d.take j) (d.drop j)=if cr r.name r.cols≠0 then cr r.name r.cols else if (d.take j).any (fun s=>s.name == r.name) then 85 else fF (d.take (j+1)) (d.drop (j+1)):=by
 have hd:d.drop j=r::d.drop (j+1):=by
  rw[<- (FE h).2,List.getElem_cons_drop]
 have ht:d.take (j+1)=d.take j++[r]:=by rw[List.take_add_one,h];rfl
 rw[hd,ht]
 rfl
theorem Aj {d:List cf} {j:Nat} {r:cf} (h:d[j]? = some r):ip (d.take j) (d.drop j)=if fQ r≠0 then fQ r else if (d.take j).any (fun s=>s.name == r.name) then 85 else ip (d.take (j+1)) (d.drop (j+1)):=by
 have hd:d.drop j=r::d.drop (j+1):=by
  rw[<- (FE h).2,List.getElem_cons_drop]
 have ht:d.take (j+1)=d.take j++[r]:=by rw[List.take_add_one,h];rfl
 rw[hd,ht]
 rfl
theorem A2 {rels:List aU} {d:List eC} {j:Nat} {t:eC} (h:d[j]? = some t):fE rels (d.drop j)=if qI rels t≠0 then qI rels t else fE rels (d.drop (j+1)):=by
 have hd:d.drop j=t::d.drop (j+1):=by
  rw[<- (FE h).2,List.getElem_cons_drop]
 rw[hd]
 rfl
theorem yM {d:List aU} {t:eC} (h:oB d t.rel = -1):qI d t=86:=by
 unfold qI
 rw[h]
 have:decide (0<=(-1:Int))=false:=by decide
 rw[this]
 split
 ·rename_i h1 h2
  cases h2
 ·rfl
theorem yV {d:List aU} {t:eC} {k:Nat} {r:aU} (h:oB d t.rel=k) (hr:d[k]? = some r):qI d t=if t.rows.all (fun z=>de z r.cols)=true then 0 else 87:=by
 unfold qI
 rw[h]
 have:decide (0<=(k:Int))=true:=by simp
 rw[this,Int.toNat_natCast,hr]
theorem up {a b:Int} (h:a=0):(if a≠0 then a else b)=b:=if_neg (fun q=>q h)
theorem j6 {a b:Int} (h:a≠0):(if a≠0 then a else b)=a:=if_pos h
def AD (l:List aU):Prop:=∀ c∈l,c.name.length<=140737488351232/\∀ x∈c.cols,x.x.length<=140737488351232
theorem iG.lens {q:cf} (h:iG q):A3 q.atoms:=fun a ha=>⟨by have:=(h.each a ha).1;omega,fun t ht=>by have:=((h.each a ha).2 t ht).2;omega⟩
theorem uX (w:World) (rv tv qv:Value) (rels:List aU) (data:List eC) (qs:List cf) (hR:bj w rv rels) (hT:du w tv data) (hQ:bZ w qv qs) (bR:AD rels) (bQ:∀ q∈qs,iG q) :
 Calls prog 31 #[rv,tv,qv] w fun e w'=>e=.returned (.int .i64 (hO rels data qs))/\Below w.heap.size w w':=by
 have hmf:∀ (fn:Fn) (first cap:Array Value) (w:World),(Instr.makeFunc fn first cap).run prog w=.ok (.func fn first cap) w:=fun _ _ _ _=>rfl
 have hnot:∀ (x:Bool) (w:World),(Op.unary .not (.bool x)).run prog w=.ok (.bool (!x)) w:=fun _ _=>rfl
 obtain⟨ra,rc,rfl,hrn,hrm⟩:=hR.form
 obtain⟨ta,tc,rfl,htn,htm⟩:=hT.form
 obtain⟨qa,qc,rfl,hqn,hqm⟩:=hQ.form
 unfold maxLen at hrm htm hqm
 have HR:=Fx hR
 have HT:=Fx hT
 have HQ:=Fx hQ
 have BR:=Fx bR
 have BQ:=Fx bQ
 obtain⟨RES,hRES⟩:∃ RES,RES=hO rels data qs:=⟨_,rfl⟩
 rw[<-hRES]
 have HD:=Fx hRES
 clear hR hT hQ bR bQ hRES
 generalize hN:rels.length=n at *
 generalize hM:data.length=m at *
 generalize hK:qs.length=qn at *
 have HN:=Fx hN
 have HM:=Fx hM
 have HK:=Fx hK
 clear hN hM hK
 go_enter func31,ntmps31
 go_wp2_with fail
 go_loopw [20] (fun i wr=>∃ j:Nat,j<=n/\i=.int .i64 j/\Hid (RES=if fF (rels.take j) (rels.drop j)≠0 then fF (rels.take j) (rels.drop j) else if fE rels data≠0 then fE rels data else ip [] qs)/\Hid (Below w.heap.size w wr)) (fun i _=>n - (intOf i).toNat)
 case atStart=>exact⟨0,Fz,rfl,HD,Fx Fy⟩
 case round =>
  obtain⟨j,hj,rfl,HP,BW⟩:=hrel
  obtain⟨wo,rfl⟩:∃ wo:World,wo=wr:=⟨_,rfl⟩
  by_cases hlt:j<n
  ·obtain⟨r,hr⟩:∃ r,rels[j]? = some r:=⟨rels[j]'(by rw[HN.out];exact hlt),FD (by rw[HN.out];exact hlt)⟩
   have hq:=HP.out
   rw[AM hr] at hq
   obtain⟨b1,o1,c1,cv,hv1,_,_,hl1,q0,q1,hcols,hcn⟩:=(HR.out.keep BW.out).get hr
   rw[HN.out] at hv1
   simp only[Value.slice.injEq,true_and] at hv1
   obtain⟨rfl,rfl⟩:=hv1
   obtain⟨ca,cc,rfl,_,_⟩:=hcols.form
   have hbr:=BR.out r (FC hr)
   have hdk:decide ((j:Int)<0)=false:=by simp
   have hdn:decide ((n:Int)<=(j:Int))=false:=by simp;omega
   have hdj:decide ((n:Int)<(j:Int))=false:=by simp;omega
   have hdc:decide ((rc:Int)<(j:Int))=false:=by simp;omega
   have bk:Below wo.heap.size wo (wo.alloc (.cells #[.string ⟨r.name.toArray⟩,.slice ca r.cols.length cc] 57)):=ae Fy _
   have hbx:=af.new wo 57 #[.string ⟨r.name.toArray⟩,.slice ca r.cols.length cc]
   have hck:=lu _ ⟨r.name.toArray⟩ _ r.cols (aO.keep hcols bk) (by show r.name.length<=_;omega) (fun c hc=>by have:=hbr.2 c hc;omega)
   have hn0:(⟨r.name.toArray⟩:ByteArray).data.toList=r.name:=rfl
   rw[hn0] at hck
   have htk:=fun W (hW:Below w.heap.size w W) (hx:af W wo.heap.size 57 #[.string ⟨r.name.toArray⟩,.slice ca r.cols.length cc])=>xQ W (.slice (some ⟨b1,o1,none⟩) j rc) (rels.take j) ((HR.out.keep hW).take (by rw[HN.out];omega) (by rw[HN.out])) wo.heap.size r.name _ hx
   have HCK:=Fx hck
   have HTK:=Fx htk
   have HBX:=Fx hbx
   have HBK:=Fx (BW.out.trans (bk.mono BW.out.size))
   have HQQ:=Fx hq
   clear bk hbx hck htk hcols hr hq hbr hn0
   generalize r.cols.length=rn at *
   generalize (rels.take j).any (fun s=>s.name == r.name)=tk at *
   generalize cr r.name r.cols=ck at *
   obtain⟨W1,hW1⟩:∃ W1,wo.alloc (.cells #[.string ⟨r.name.toArray⟩,.slice ca rn cc] 57)=W1:=⟨_,rfl⟩
   rw[hW1] at HCK HBX HBK
   have HW1:=Fx hW1
   clear hW1
   have x0:=HBX.out.cell 0
   have x1:=HBX.out.cell 1
   have xl:=HBX.out.lt
   simp only[FF] at x0 x1
   by_cases hc0:ck=0
   ·have hce:(ck != 0)=false:=by simp [hc0]
    have hq:=HQQ.out
    rw[up hc0] at hq
    subst hc0
    have HQ3:=Fx hq
    clear hq
    go_upto_region 4 with fail
    rw[HW1.out]
    clear q0 q1
    go_wp2_with fail
    refine HCK.out.mono ?_
    rintro e w2 ⟨rfl,hb2⟩
    have HB2:=Fx (HBK.out.trans (hb2.mono HBK.out.size))
    have HBX2:=Fx (HBX.out.below hb2 HBX.out.lt)
    have HT2:=Fx (HTK.out _ HB2.out HBX2.out)
    clear hb2 x0 x1 xl
    go_wp2_with fail
    refine HT2.out.mono ?_
    rintro e w3 ⟨rfl,hb3⟩
    have HB3:=Fx (HB2.out.trans (hb3.mono HB2.out.size))
    clear hb3
    cases tk with
    | true =>
      have hq:=HQ3.out
      rw[if_pos rfl,if_pos (by decide)] at hq
      subst hq
      go_wp2_with fail
      go_ret
      exact⟨rfl,HB3.out⟩
    | false =>
      have hq:=HQ3.out
      rw[if_neg (show ¬ (false=true) by decide)] at hq
      have HQ4:=Fx hq
      clear hq
      go_wp2_with fail
      go_roundw
      case rel=>exact⟨j+1,by omega,by go_num,HQ4,HB3⟩
      case measure=>simp [intOf];omega
   ·have hce:(ck != 0)=true:=by simpa using hc0
    have hq:=HQQ.out
    rw[j6 hc0,j6 hc0] at hq
    subst hq
    go_upto_region 4 with fail
    rw[HW1.out]
    clear q0 q1
    go_wp2_with fail
    refine HCK.out.mono ?_
    rintro e w2 ⟨rfl,hb2⟩
    have HB2:=Fx (HBK.out.trans (hb2.mono HBK.out.size))
    clear hb2
    go_wp2_with fail
    go_ret
    exact⟨rfl,HB2.out⟩
  ·obtain rfl:j=n:=by omega
   have hq:=HP.out
   rw[List.drop_of_length_le (by rw[HN.out];exact FA),show fF (rels.take j) []=0 from rfl,up (show (0:Int)=0 from rfl)] at hq
   have HD2:=Fx hq
   clear hq HP
   go_wp2_with fail
   go_loopw [38] (fun i wr=>∃ k:Nat,k<=m/\i=.int .i64 k/\Hid (RES=if fE rels (data.drop k)≠0 then fE rels (data.drop k) else ip [] qs)/\Hid (Below w.heap.size w wr)) (fun i _=>m - (intOf i).toNat)
   case atStart=>exact⟨0,Fz,rfl,HD2,BW⟩
   case round =>
    obtain⟨k,hk,rfl,HP,BW⟩:=hrel
    obtain⟨wo,rfl⟩:∃ wo:World,wo=wr:=⟨_,rfl⟩
    by_cases hkt:k<m
    ·obtain⟨t,ht⟩:∃ t,data[k]? = some t:=⟨data[k]'(by rw[HM.out];exact hkt),FD (by rw[HM.out];exact hkt)⟩
     have hq:=HP.out
     rw[A2 ht] at hq
     obtain⟨b1,o1,c1,tv,hv1,_,_,hl1,q0,q1,hrows⟩:=(HT.out.keep BW.out).get ht
     rw[HM.out] at hv1
     simp only[Value.slice.injEq,true_and] at hv1
     obtain⟨rfl,rfl⟩:=hv1
     obtain⟨xa,xc,rfl,hxn,hxm⟩:=hrows.form
     unfold maxLen at hxm
     have hdk:decide ((k:Int)<0)=false:=by simp
     have hdn:decide ((m:Int)<=(k:Int))=false:=by simp;omega
     have bk:Below wo.heap.size wo (wo.alloc (.cells #[.string ⟨t.rel.toArray⟩,.slice xa t.rows.length xc] 47)):=ae Fy _
     have hbx:=af.new wo 47 #[.string ⟨t.rel.toArray⟩,.slice xa t.rows.length xc]
     have hpl:=vY _ _ rels ((HR.out.keep BW.out).keep bk) _ _ _ hbx
     have HPL:=Fx hpl
     have HBX:=Fx hbx
     have HBK:=Fx (BW.out.trans (bk.mono BW.out.size))
     have HRW:=Fx (hrows.keep bk)
     have HQQ:=Fx hq
     clear bk hbx hpl hrows ht hq
     obtain⟨rn,hrn'⟩:∃ rn,t.rows.length=rn:=⟨_,rfl⟩
     rw[hrn'] at HPL HBX HBK hxn HRW
     have HRN:=Fx hrn'
     obtain⟨W1,hW1⟩:∃ W1,wo.alloc (.cells #[.string ⟨t.rel.toArray⟩,.slice xa rn xc] 47)=W1:=⟨_,rfl⟩
     rw[hW1] at HPL HBX HBK HRW
     have HW1:=Fx hW1
     clear hW1 hrn'
     go_upto_region 13 with fail
     rw[HRN.out,HW1.out]
     clear q0 q1
     rcases pK rels t.rel with hp | ⟨i,r,hp,hr,hrnm⟩
     ·have hq:=HQQ.out
      rw[yM hp,j6 (show (86:Int)≠0 by decide),j6 (show (86:Int)≠0 by decide)] at hq
      subst hq
      rw[hp] at HPL
      clear hp
      go_wp2_with fail
      refine HPL.out.mono ?_
      rintro e w2 ⟨rfl,hb2⟩
      have HB2:=Fx (HBK.out.trans (hb2.mono HBK.out.size))
      clear hb2
      go_wp2_with fail
      go_ret
      exact⟨rfl,HB2.out⟩
     ·rw[hp] at HPL
      have htb:=yV hp hr
      have hil:=(FE hr).1
      rw[HN.out] at hil
      have hk0:¬ ((i:Int)<0):=by omega
      have hdi:decide ((i:Int)<0)=false:=by simp
      have hdn2:decide ((j:Int)<=(i:Int))=false:=by simp;omega
      have HTB:=Fx htb
      have HRR:=Fx hr
      clear hp htb hr
      go_wp2_with fail
      refine HPL.out.mono ?_
      rintro e w2 ⟨rfl,hb2⟩
      have hx2:=HBX.out.below hb2 HBX.out.lt
      have HB2:=Fx (HBK.out.trans (hb2.mono HBK.out.size))
      have HRW2:=Fx (HRW.out.keep hb2)
      have x1:=hx2.cell 1
      have xl:=hx2.lt
      simp only[FF] at x1
      clear hb2 hx2 HPL
      go_wp2_with fail
      clear x1 xl
      go_loopw [50] (fun i wr=>∃ p:Nat,p<=rn/\i=.int .i64 p/\Hid (∀ (q:Nat) (z:List Vl),q<p->t.rows[q]? = some z->de z r.cols=true)/\Hid (Below w2.heap.size w2 wr)) (fun i _=>rn - (intOf i).toNat)
      case atStart=>exact⟨0,Fz,rfl,Fx (fun q _ hq=>by omega),Fx Fy⟩
      case round =>
       obtain⟨p,hp,rfl,HF,BW2⟩:=hrel
       obtain⟨wp,rfl⟩:∃ wp:World,wp=wr:=⟨_,rfl⟩
       have HBP:=Fx (HB2.out.trans (BW2.out.mono HB2.out.size))
       by_cases hpt:p<rn
       ·obtain⟨z,hz⟩:∃ z,t.rows[p]? = some z:=⟨t.rows[p]'(by rw[HRN.out];exact hpt),FD (by rw[HRN.out];exact hpt)⟩
        have hRg:=(HRW2.out.keep BW2.out).get hz
        rw[HRN.out] at hRg
        obtain⟨b3,o3,c3,zv,hv3,_,_,hl3,z0,hzr,_⟩:=hRg
        simp only[Value.slice.injEq,true_and] at hv3
        obtain⟨rfl,rfl⟩:=hv3
        obtain⟨db,d_o,dcap,cv,hdv,_,_,hdl,_,k1,hcols,_⟩:=(HR.out.keep HBP.out).get HRR.out
        rw[HN.out] at hdv
        simp only[Value.slice.injEq,true_and] at hdv
        obtain⟨rfl,rfl⟩:=hdv
        obtain⟨za,zc,rfl,_,_⟩:=hzr.form
        obtain⟨ca,cc,rfl,_,_⟩:=hcols.form
        have hft:=yS wp _ _ z r.cols hzr hcols
        simp only[Nat.mul_one,List.length_map] at z0
        simp only[List.length_map] at hft
        have hdp:decide ((p:Int)<0)=false:=by simp
        have hdpn:decide ((rn:Int)<=(p:Int))=false:=by simp;omega
        have HFT:=Fx hft
        have HZ:=Fx hz
        clear hft hzr hcols hz
        generalize hfz:de z r.cols=fz at *
        have HFZ:=Fx hfz
        clear hfz
        go_wp2_with fail
        refine HFT.out.mono ?_
        rintro e w5 ⟨rfl,hb5⟩
        have HB5:=Fx (HBP.out.trans (hb5.mono HBP.out.size))
        have HB25:=Fx (BW2.out.trans (hb5.mono BW2.out.size))
        clear hb5
        cases fz with
        | true =>
          go_wp2_with fail
          go_roundw
          case rel =>
           refine⟨p+1,by omega,by go_num,Fx (fun q z' hq hz'=>?_),HB25⟩
           rcases Nat.lt_or_eq_of_le (Nat.le_of_lt_succ hq) with h | rfl
           ·exact HF.out q z' h hz'
           ·rw[HZ.out] at hz'
            cases hz'
            exact HFZ.out
          case measure=>simp [intOf];omega
        | false =>
          have hq:=HQQ.out
          have hall:¬ (t.rows.all (fun z=>de z r.cols)=true):=fun h=>by
           have h1:=List.all_eq_true.1 h z (FC HZ.out)
           rw[HFZ.out] at h1
           cases h1
          rw[HTB.out,if_neg hall,j6 (show (87:Int)≠0 by decide),j6 (show (87:Int)≠0 by decide)] at hq
          subst hq
          clear hall
          go_wp2_with fail
          go_ret
          exact⟨rfl,HB5.out⟩
       ·obtain rfl:p=rn:=by omega
        have hq:=HQQ.out
        have hall:t.rows.all (fun z=>de z r.cols)=true:=List.all_eq_true.2 fun z hz=>by
         obtain⟨q,hq'⟩:=List.getElem?_of_mem hz
         exact HF.out q z (by rw[<-HRN.out];exact (FE hq').1) hq'
        rw[HTB.out,if_pos hall,up (show (0:Int)=0 from rfl)] at hq
        have HQ3:=Fx hq
        clear hq hall
        go_wp2_with fail
        go_roundw
        case rel=>exact⟨k+1,by omega,by go_num,HQ3,HBP⟩
        case measure=>simp [intOf];omega
    ·obtain rfl:k=m:=by omega
     have hq:=HP.out
     rw[List.drop_of_length_le (by rw[HM.out];exact FA),show fE rels []=0 from rfl,up (show (0:Int)=0 from rfl)] at hq
     have HD3:=Fx hq
     clear hq HP
     go_wp2_with fail
     go_loopw [66] (fun i wr=>∃ p:Nat,p<=qn/\i=.int .i64 p/\Hid (RES=ip (qs.take p) (qs.drop p))/\Hid (Below w.heap.size w wr)) (fun i _=>qn - (intOf i).toNat)
     case atStart=>exact⟨0,Fz,rfl,HD3,BW⟩
     case round =>
      obtain⟨p,hp,rfl,HP,BW⟩:=hrel
      obtain⟨wo,rfl⟩:∃ wo:World,wo=wr:=⟨_,rfl⟩
      by_cases hlt2:p<qn
      ·obtain⟨r,hr⟩:∃ r,qs[p]? = some r:=⟨qs[p]'(by rw[HK.out];exact hlt2),FD (by rw[HK.out];exact hlt2)⟩
       have hq:=HP.out
       rw[Aj hr] at hq
       obtain⟨b1,o1,c1,hv,av,hv1,_,_,hl1,q0,q1,q2,hh,ha⟩:=(HQ.out.keep BW.out).get hr
       rw[HK.out] at hv1
       simp only[Value.slice.injEq,true_and] at hv1
       obtain⟨rfl,rfl⟩:=hv1
       obtain⟨ha1,hc1,rfl,_,_⟩:=hh.form
       obtain⟨aa1,ac1,rfl,_,_⟩:=ha.form
       have hbr:=BQ.out r (FC hr)
       have hdk:decide ((p:Int)<0)=false:=by simp
       have hdn:decide ((qn:Int)<=(p:Int))=false:=by simp;omega
       have hdj:decide ((qn:Int)<(p:Int))=false:=by simp;omega
       have hdc:decide ((qc:Int)<(p:Int))=false:=by simp;omega
       have hsh:=fun W (hW:Below wo.heap.size wo W)=>pM W ⟨r.name.toArray⟩ _ _ r.head r.atoms (aj.keep hh hW) (ha.keep hW) (by show r.name.length<=_;have:=hbr.name;omega) (fun s hs=>by have:=hbr.heads s hs;omega) hbr.lens
       have hn0:(⟨r.name.toArray⟩:ByteArray).data.toList=r.name:=rfl
       rw[hn0] at hsh
       have HSH:=Fx hsh
       generalize r.head.length=n1 at *
       generalize r.atoms.length=n2 at *
       have bk:Below wo.heap.size wo (wo.alloc (.cells #[.string ⟨r.name.toArray⟩,.slice ha1 n1 hc1,.slice aa1 n2 ac1] 50)):=ae Fy _
       have hbx:=af.new wo 50 #[.string ⟨r.name.toArray⟩,.slice ha1 n1 hc1,.slice aa1 n2 ac1]
       have htk:=fun W (hW:Below w.heap.size w W) (hx:af W wo.heap.size 50 #[.string ⟨r.name.toArray⟩,.slice ha1 n1 hc1,.slice aa1 n2 ac1])=>wg W (.slice (some ⟨b1,o1,none⟩) p qc) (qs.take p) ((HQ.out.keep hW).take (by rw[HK.out];omega) (by rw[HK.out])) wo.heap.size r.name _ _ hx
       have HCK:=Fx (HSH.out _ bk)
       have HTK:=Fx htk
       have HBX:=Fx hbx
       have HBK:=Fx (BW.out.trans (bk.mono BW.out.size))
       have HQQ:=Fx hq
       clear bk hbx hsh htk hh ha hr hq hbr hn0 HSH
       generalize (qs.take p).any (fun s=>s.name == r.name)=tk at *
       generalize fQ r=ck at *
       obtain⟨W1,hW1⟩:∃ W1,wo.alloc (.cells #[.string ⟨r.name.toArray⟩,.slice ha1 n1 hc1,.slice aa1 n2 ac1] 50)=W1:=⟨_,rfl⟩
       rw[hW1] at HCK HBX HBK
       have HW1:=Fx hW1
       clear hW1
       have x0:=HBX.out.cell 0
       have x1:=HBX.out.cell 1
       have x2:=HBX.out.cell 2
       have xl:=HBX.out.lt
       simp only[FF] at x0 x1 x2
       by_cases hc0:ck=0
       ·have hce:(ck != 0)=false:=by simp [hc0]
        have hq:=HQQ.out
        rw[up hc0] at hq
        subst hc0
        have HQ3:=Fx hq
        clear hq
        go_upto_region 26 with fail
        rw[HW1.out]
        clear q0 q1 q2
        go_wp2_with fail
        refine HCK.out.mono ?_
        rintro e w2 ⟨rfl,hb2⟩
        have HB2:=Fx (HBK.out.trans (hb2.mono HBK.out.size))
        have HBX2:=Fx (HBX.out.below hb2 HBX.out.lt)
        have HT2:=Fx (HTK.out _ HB2.out HBX2.out)
        clear hb2 x0 x1 x2 xl
        go_wp2_with fail
        refine HT2.out.mono ?_
        rintro e w3 ⟨rfl,hb3⟩
        have HB3:=Fx (HB2.out.trans (hb3.mono HB2.out.size))
        clear hb3
        cases tk with
        | true =>
          have hq:=HQ3.out
          rw[if_pos rfl] at hq
          subst hq
          go_wp2_with fail
          go_ret
          exact⟨rfl,HB3.out⟩
        | false =>
          have hq:=HQ3.out
          rw[if_neg (show ¬ (false=true) by decide)] at hq
          have HQ4:=Fx hq
          clear hq
          go_wp2_with fail
          go_roundw
          case rel=>exact⟨p+1,by omega,by go_num,HQ4,HB3⟩
          case measure=>simp [intOf];omega
       ·have hce:(ck != 0)=true:=by simpa using hc0
        have hq:=HQQ.out
        rw[j6 hc0] at hq
        subst hq
        go_upto_region 26 with fail
        rw[HW1.out]
        clear q0 q1 q2
        go_wp2_with fail
        refine HCK.out.mono ?_
        rintro e w2 ⟨rfl,hb2⟩
        have HB2:=Fx (HBK.out.trans (hb2.mono HBK.out.size))
        clear hb2
        go_wp2_with fail
        go_ret
        exact⟨rfl,HB2.out⟩
      ·obtain rfl:p=qn:=by omega
       have hq:=HP.out
       rw[List.drop_of_length_le (by rw[HK.out];exact FA),show ip (qs.take p) []=0 from rfl] at hq
       subst hq
       go_wp2_with fail
       go_ret
       exact⟨rfl,BW.out⟩
