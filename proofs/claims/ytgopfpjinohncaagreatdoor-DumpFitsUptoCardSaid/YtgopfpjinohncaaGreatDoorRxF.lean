/- Lists of relations: -/
import Derived.Test.YtgopfpjinohncaaGreatDoorJyF
import Derived.Test.YtgopfpjinohncaaGreatDoorShelfJZF
set_option maxHeartbeats 8000000
set_option maxRecDepth 100000
set_option linter.unusedVariables false
namespace Go.Proofs.YtgopfpjinohncaaGreatDoor
open Go.Proofs.Tryz
open Go.RowKit
def qA (w:World) (cells:List Value) (r:aU):Prop:=∃ cv,cells=[.string ⟨r.name.toArray⟩,cv]/\aO w cv r.cols/\r.cols.length<=5864062014634
def bj (w:World) (v:Value) (l:List aU):Prop:=∃ rows,aj w v 2 rows/\aH (qA w) rows l
theorem qA.keep {w w':World} {row:List Value} {a:aU} (h:qA w row a) (hb:Below w.heap.size w w'):qA w' row a:=by
 obtain⟨cv,rfl,h2,h3⟩:=h
 exact⟨cv,rfl,aj.keep h2 hb,h3⟩
theorem bj.keep {w w':World} {v:Value} {l:List aU} (h:bj w v l) (hb:Below w.heap.size w w'):bj w' v l:=by
 obtain⟨rows,h1,h2⟩:=h
 exact⟨rows,h1.keep hb,h2.mono fun b a hh=>hh.keep hb⟩
theorem bj.form {w:World} {v:Value} {l:List aU} (h:bj w v l):∃ (ad:Option Addr) (cap:Nat),v=.slice ad l.length cap/\l.length<=cap/\cap<=maxLen:=by
 obtain⟨rows,h1,h2⟩:=h
 obtain⟨ad,cap,hv,h3,h4⟩:=h1.form
 rw[h2.length] at hv h3
 exact⟨ad,cap,hv,h3,h4⟩
theorem bj.get {w:World} {v:Value} {l:List aU} (h:bj w v l) {i:Nat} {a:aU} (hi:l[i]? = some a):∃ (b off cap:Nat) (cv:Value),v=.slice (some ⟨b,off,none⟩) l.length cap/\l.length<=cap/\cap<=maxLen/\b<w.heap.size /\
 w.cell? ⟨b,off+i * 2,none⟩=some (.string ⟨a.name.toArray⟩)/\w.cell? ⟨b,off+i * 2+1,none⟩=some cv/\aO w cv a.cols/\a.cols.length<=5864062014634:=by
 obtain⟨rows,h1,h2⟩:=h
 obtain⟨row,hr,cv,rfl,h3,h4⟩:=h2.get hi
 obtain⟨b,off,cap,hv,h5,h6,h7,h8⟩:=h1.get hr
 rw[h2.length] at hv h5
 exact⟨b,off,cap,cv,hv,h5,h6,h7,h8 0 _ rfl,h8 1 _ rfl,h3,h4⟩
theorem bj.len {w:World} {v:Value} {l:List aU} (h:bj w v l):l.length<=8796093022208:=by
 obtain⟨rows,h1,h2⟩:=h
 rw[<-h2.length]
 exact h1.len
def Fg (Q:Nat->Prop) (v:Value):Prop:=∀ k,v.ownBlock=some k->Q k
def jL (Q:Nat->Prop) (w:World) (row:List Value) (c:aU):Prop:=∃ cv,row=[.string ⟨c.name.toArray⟩,cv]/\bV 0 w cv c.cols/\Fg Q cv
def cL (Q:Nat->Prop) (w:World) (v:Value) (l:List aU):Prop :=
 ∃ rows:List (List Value),w.ownsRow 0 57 2 v l.length rows.flatten/\Fg Q v/\aH (jL Q w) rows l
theorem jL.mono {Q Q':Nat->Prop} {w:World} {row:List Value} {a:aU} (h:jL Q w row a) (hq:∀ k,k<w.heap.size->Q k->Q' k):jL Q' w row a:=by
 obtain⟨cv,rfl,h2,h3⟩:=h
 exact⟨cv,rfl,h2,fun k hk=>hq k (World.ownsRow.lt h2 k hk).2 (h3 k hk)⟩
theorem jL.mod {Q F:Nat->Prop} {w w':World} {row:List Value} {a:aU} (h:jL Q w row a) (hm:aq F w w') (hn:∀ k,Q k->¬ F k):jL Q w' row a:=by
 obtain⟨cv,rfl,h2,h3⟩:=h
 exact⟨cv,rfl,hm.ownsRow h2 (fun k hk=>hn k (h3 k hk)),h3⟩
theorem cL.mono {Q Q':Nat->Prop} {w:World} {v:Value} {l:List aU} (h:cL Q w v l) (hq:∀ k,k<w.heap.size->Q k->Q' k):cL Q' w v l:=by
 obtain⟨rows,h1,h2,h3⟩:=h
 exact⟨rows,h1,fun k hk=>hq k (World.ownsRow.lt h1 k hk).2 (h2 k hk),h3.mono fun b a hh=>hh.mono hq⟩
theorem cL.mod {Q F:Nat->Prop} {w w':World} {v:Value} {l:List aU} (h:cL Q w v l) (hm:aq F w w') (hn:∀ k,Q k->¬ F k):cL Q w' v l:=by
 obtain⟨rows,h1,h2,h3⟩:=h
 exact⟨rows,hm.ownsRow h1 (fun k hk=>hn k (h2 k hk)),h2,h3.mono fun b a hh=>hh.mod hm hn⟩
theorem cL.at {Q:Nat->Prop} {w:World} {v:Value} {l:List aU} (h:cL Q w v l) (hl:l.length<=8796093022208) (hr:∀ c∈l,c.cols.length<=5864062014634):bj w v l:=by
 obtain⟨rows,h1,_,h2⟩:=h
 have hll:=h2.length
 refine⟨rows,aj.ofOwn h1 hll.symm ?_ (by omega),ep h2 fun c x hx hh=>?_⟩
 ·intro c hc
  obtain⟨x,_,cv,rfl,_⟩:=bm h2 c hc
  rfl
 ·obtain⟨cv,rfl,ho,_⟩:=hh
  have hx2:=hr x hx
  exact⟨cv,rfl,bV.at ho (by omega),hx2⟩
def Dy (u:Vl) (c:bd):Bool:=ax u.k u.n u.t && decide (u.k=c.k)
def DZ (p:Vl × bd):Bool:=Dy p.1 p.2
def fL (row:List Vl) (cols:List bd):Bool:=decide (row.length=cols.length) && (row.zip cols).all DZ
theorem xe {row:List Vl} {cols:List bd} {k:Nat} {u:Vl} {c:bd} (h1:row[k]? = some u) (h2:cols[k]? = some c):(row.zip cols)[k]? = some (u,c):=by
 rw[List.getElem?_zip_eq_some]
 exact⟨h1,h2⟩
theorem oF {α:Type} (p:α->Bool) {l:List α} {k:Nat} {x:α} (h:l[k]? = some x):(l.take (k+1)).all p=((l.take k).all p && p x):=by
 rw[List.take_add_one,h]
 simp
theorem wO {row:List Vl} {cols:List bd} {k:Nat} {u:Vl} {c:bd} (h1:row[k]? = some u) (h2:cols[k]? = some c) (h:Dy u c=false):fL row cols=false:=by
 unfold fL
 have:(row.zip cols).all DZ=false:=by
  rw[List.all_eq_false]
  exact⟨(u,c),FC (xe h1 h2),by simp only[DZ];rw[h];decide⟩
 rw[this,Bool.and_false]
theorem zJ {row:List Vl} {cols:List bd} (h:row.length≠cols.length):fL row cols=false:=by
 unfold fL
 rw[decide_eq_false h]
 rfl
theorem Cd {row:List Vl} {cols:List bd} (h:row.length=cols.length) (ha:∀ (k:Nat) (u:Vl) (c:bd),row[k]? = some u->cols[k]? = some c->Dy u c=true):fL row cols=true:=by
 unfold fL
 rw[decide_eq_true h,Bool.true_and,List.all_eq_true]
 intro p hp
 obtain⟨k,hk⟩:=List.getElem?_of_mem hp
 obtain⟨u,c⟩:=p
 rw[List.getElem?_zip_eq_some] at hk
 exact ha k u c hk.1 hk.2
def oB (d:List aU) (x:List UInt8):Int:=iE (d.map (·.name)) x
def qW (d:List aU) (x:List UInt8) (row:List Vl):Int:=match d[(oB d x).toNat]?,decide (0<=oB d x) with
 | some r,true=>if fL row r.cols=true then 0 else 87
 | _,_=>86
theorem pV {d:List aU} {x:List UInt8} {row:List Vl} (h:oB d x = -1):qW d x row=86:=by
 unfold qW
 rw[h]
 have:decide (0<=(-1:Int))=false:=by decide
 rw[this]
 split
 ·rename_i h1 h2
  cases h2
 ·rfl
theorem yk {d:List aU} {x:List UInt8} {row:List Vl} {k:Nat} {r:aU} (h:oB d x=k) (hr:d[k]? = some r):qW d x row=if fL row r.cols=true then 0 else 87:=by
 unfold qW
 rw[h]
 have:decide (0<=(k:Int))=true:=by simp
 rw[this,Int.toNat_natCast,hr]
theorem pK (d:List aU) (x:List UInt8):oB d x = -1∨∃ (k:Nat) (r:aU),oB d x=k/\d[k]? = some r/\r.name=x:=by
 unfold oB
 by_cases h:x∈d.map (·.name)
 ·right
  have hl:=List.idxOf_lt_length_of_mem h
  have hg:=List.getElem_idxOf hl
  have hl2:=hl
  rw[List.length_map] at hl2
  refine⟨(d.map (·.name)).idxOf x,d[(d.map (·.name)).idxOf x]'hl2,?_,FD hl2,?_⟩
  ·unfold iE
   rw[if_pos h]
  ·rw[List.getElem_map] at hg
   exact hg
 ·exact .inl (lB h)
def C2 (rels:List aU):List eP->Nat->Int × Int
 | [],_=>(0,0)
 | c::l,i=>if qW rels c.rel c.row=0 then C2 rels l (i+1) else ((i:Int),qW rels c.rel c.row)
def nG (b:List eP) (rels:List aU):Int × Int:=if 256<b.length then (0,100) else C2 rels b 0
theorem B9 {rels:List aU} {b:List eP} {k:Nat} {c:eP} (h:b[k]? = some c) (h0:qW rels c.rel c.row=0):C2 rels (b.drop k) k=C2 rels (b.drop (k+1)) (k+1):=by
 have hk:=(FE h).1
 have e:=(FE h).2
 rw[List.drop_eq_getElem_cons hk,e,C2,if_pos h0]
theorem wG {rels:List aU} {b:List eP} {k:Nat} {c:eP} (h:b[k]? = some c) (h0:qW rels c.rel c.row≠0):C2 rels (b.drop k) k=((k:Int),qW rels c.rel c.row):=by
 have hk:=(FE h).1
 have e:=(FE h).2
 rw[List.drop_eq_getElem_cons hk,e,C2,if_neg h0]
end Go.Proofs.YtgopfpjinohncaaGreatDoor
namespace Go.Proofs.YtgopfpjinohncaaGreatDoor
open Go.Proofs.Tryz
def Dj {α:Type} (l:List α) (f:α->Bool) (k:Nat):Bool:=match l[k]? with
 | some s=>f s
 | none=>false
theorem ev {α:Type} {l:List α} {f:α->Bool} {k:Nat} {x:α} (h:l[k]? = some x):Dj l f k=f x:=by
 unfold Dj
 rw[h]
theorem eW {α:Type} (l:List α) (f:α->Bool) {n:Nat} (hn:n=l.length):(List.range n).any (Dj l f)=l.any f:=by
 subst hn
 rw[Bool.eq_iff_iff]
 simp only[List.any_eq_true,List.mem_range]
 constructor
 ·rintro ⟨k,hk,hp⟩
  rw[ev (FD hk)] at hp
  exact⟨_,List.getElem_mem hk,hp⟩
 ·rintro ⟨x,hx,hp⟩
  obtain⟨k,hk,rfl⟩:=List.getElem_of_mem hx
  exact⟨k,hk,by rw[ev (FD hk)];exact hp⟩
theorem bX {α:Type} (p:α->Bool) {l:List α} {k:Nat} {x:α} (h:l[k]? = some x):(l.take (k+1)).any p=((l.take k).any p || p x):=by
 rw[List.take_add_one,h]
 simp
end Go.Proofs.YtgopfpjinohncaaGreatDoor
namespace Go.Proofs.YtgopfpjinohncaaGreatDoor
open Go.Proofs.Tryz
open Go.RowKit
theorem vx (g:Nat) (lb:Array Value) (eg:∀ args w,(callFunc g args).run prog w=.ok (.enter g args) w) (p:Nat->Bool) (w:World) (v:Value) (xs:List (List Value)) (h:aj w v 3 xs) (hl:∀ x∈xs,x.length=3)
 (hf:∀ (W:World) (k:Nat) (x:List Value),Below w.heap.size w W->xs[k]? = some x->Calls prog g (#[.agg x.toArray]++lb) W fun e W'=>e=.returned (.bool (p k))/\Below W.heap.size W W') :
 Calls prog 210 #[v,.func (.func g) #[] lb] w fun e w'=>(∃ q:Int,e=.returned (.int .i64 q)/\decide (0<=q)=(List.range xs.length).any p)/\Below w.heap.size w w':=by
 obtain⟨ad,cap,rfl,hnc,hcm⟩:=h.form
 have hln:=h.len
 have HR:=Fx h
 have HL:=Fx hl
 have HF:=Fx hf
 unfold maxLen at hcm
 generalize hn:xs.length=n at *
 have HN:=Fx hn
 clear h hl hf hn
 go_enter func210,ntmps210
 go_wp2_with fail
 go_loopw [5,8] (fun _ i wr=>∃ k:Nat,k<=n/\i=.int .i64 k/\Hid (Below w.heap.size w wr)/\Hid (∀ j,j<k->p j=false)) (fun _ i _=>n - (intOf i).toNat)
 case atStart=>exact⟨0,Fz,rfl,Fx Fy,Fx (fun j hj=>by omega)⟩
 case round =>
  obtain⟨k,hk,rfl,HB,HP⟩:=hrel
  by_cases hlt:k<n
  ·obtain⟨x,hx⟩:∃ x,xs[k]? = some x:=⟨xs[k]'(by rw[HN.out];exact hlt),FD (by rw[HN.out];exact hlt)⟩
   have hm:x∈xs:=FC hx
   obtain⟨b,off,cap',hv,_,_,hbl,hce⟩:=(HR.out.keep HB.out).get hx
   rw[HN.out] at hv
   simp only[Value.slice.injEq,true_and] at hv
   obtain⟨rfl,rfl⟩:=hv
   obtain⟨e0,e1,e2,rfl⟩:=te (HL.out x hm)
   have q0:=hce 0 e0 rfl
   have q1:=hce 1 e1 rfl
   have q2:=hce 2 e2 rfl
   simp only[Nat.add_zero] at q0 q1 q2
   have hcall:=HF.out wr k _ HB.out hx
   clear hce hm hx
   cases hq:p k with
   | true =>
     rw[hq] at hcall
     have HC:=Fx hcall
     have HQ:=Fx hq
     clear hcall hq
     go_wp2_with fail
     refine HC.out.mono ?_
     rintro e w' ⟨rfl,hb'⟩
     have HB':=Fx hb'
     clear hb'
     go_wp2_with fail
     go_ret
     refine⟨⟨k,rfl,?_⟩,HB.out.trans (HB'.out.mono HB.out.size)⟩
     rw[decide_eq_true (Int.natCast_nonneg k)]
     exact (List.any_eq_true.2 ⟨k,List.mem_range.2 hlt,HQ.out⟩).symm
   | false =>
     rw[hq] at hcall
     have HC:=Fx hcall
     have HQ:=Fx hq
     clear hcall hq
     go_wp2_with fail
     refine HC.out.mono ?_
     rintro e w' ⟨rfl,hb'⟩
     have HB':=Fx hb'
     clear hb'
     go_wp2_with fail
     go_roundw
     case rel =>
      refine⟨k+1,by omega,by go_num,Fx (HB.out.trans (HB'.out.mono HB.out.size)),Fx (fun j hj=>?_)⟩
      rcases Nat.lt_or_ge j k with h1 | h1
      ·exact HP.out j h1
      ·obtain rfl:j=k:=by omega
       exact HQ.out
     case measure=>simp [intOf];omega
  ·obtain rfl:k=n:=by omega
   go_wp2_with fail
   go_ret
   refine⟨⟨-1,rfl,?_⟩,HB.out⟩
   rw[show decide ((0:Int) <= -1)=false from by decide]
   refine (List.any_eq_false.2 fun j hj=>?_).symm
   rw[HP.out j (List.mem_range.1 hj)]
   decide
theorem oI (g:Nat) (lb:Array Value) (eg:∀ args w,(callFunc g args).run prog w=.ok (.enter g args) w) (p:Nat->Bool) (w:World) (v:Value) (xs:List (List Value)) (h:aj w v 3 xs) (hl:∀ x∈xs,x.length=3)
 (hf:∀ (W:World) (k:Nat) (x:List Value),Below w.heap.size w W->xs[k]? = some x->Calls prog g (#[.agg x.toArray]++lb) W fun e W'=>e=.returned (.bool (p k))/\Below W.heap.size W W') :
 Calls prog 155 #[v,.func (.func g) #[] lb] w fun e w'=>e=.returned (.bool ((List.range xs.length).any p))/\Below w.heap.size w w':=by
 have HI:=Fx (vx g lb eg p w v xs h hl hf)
 clear h hl hf
 generalize (List.range xs.length).any p=R at *
 go_enter func155,ntmps155
 go_wp2_with fail
 refine HI.out.mono ?_
 rintro e w' ⟨⟨q,rfl,hq⟩,hb'⟩
 have HB':=Fx hb'
 clear hb'
 go_wp2_with fail
 go_ret
 exact⟨by first | rfl | simp,HB'.out⟩
theorem u7 (w:World) (u:Vl) :
 Calls prog 156 #[.agg u.cells.toArray] w fun e w'=>e=.returned (.bool (kH u))/\Below w.heap.size w w':=by
 have hnot:∀ (x:Bool) (w:World),(Op.unary .not (.bool x)).run prog w=.ok (.bool (!x)) w:=fun _ _=>rfl
 obtain⟨k,n,s⟩:=u
 unfold kH Vl.cells
 have hv:=fun W=>eV k n ⟨s.toArray⟩ W
 have hss:(⟨s.toArray⟩:ByteArray).data.toList=s:=by simp
 rw[hss] at hv
 have hb0:Below w.heap.size w (w.alloc (.cells #[.int .i64 k,.int .i64 n,.string ⟨s.toArray⟩] 111)):=ae Fy _
 have hb1:=fun c:Array Value=>ae hb0 (.cells c 111)
 show Calls _ _ _ _ fun e w'=>e=.returned (.bool (!ax k n s))/\_
 generalize ax k n s=vb at *
 have HV:=Fx hv
 have HB1:=Fx hb1
 clear hv hss hb0 hb1
 go_enter func156,ntmps156
 go_wp2_with fail
 refine (HV.out _).mono ?_
 rintro e w1 ⟨rfl,rfl⟩
 go_wp2_with fail
 go_ret
 exact⟨rfl,HB1.out _⟩
theorem dO (w:World) (rv:Value) (l:List Vl) (h:aj w rv 3 (l.map Vl.cells)) :
 Calls prog 74 #[rv] w fun e w'=>e=.returned (.bool (dj l))/\Below w.heap.size w w':=by
 have hnot:∀ (x:Bool) (w:World),(Op.unary .not (.bool x)).run prog w=.ok (.bool (!x)) w:=fun _ _=>rfl
 have hcf:=oI 156 #[] (enters_of func156 (by kernel_rfl) rfl) (Dj l kH) w rv (l.map Vl.cells) h (nd _) (fun W k x _ hx=>by
  rw[List.getElem?_map] at hx
  cases hs:l[k]? with
  | none=>rw[hs] at hx;simp at hx
  | some s =>
    rw[hs] at hx
    simp only[Option.map_some,Option.some.injEq] at hx
    subst hx
    rw[ev hs]
    exact u7 W s)
 rw[eW l _ (List.length_map _)] at hcf
 have hl:=h.len
 obtain⟨ad,cap,rfl,hnc,hcm⟩:=h.form
 unfold dj
 rw[List.length_map] at *
 have HC:=Fx hcf
 clear hcf h
 generalize l.any kH=bv at *
 generalize l.length=n at *
 by_cases h30:n<=30
 ·have hd:(n:Int)<=30:=by omega
  rw[decide_eq_true h30]
  go_enter func74,ntmps74
  go_wp2_with fail
  refine HC.out.mono ?_
  rintro e w2 ⟨rfl,hb⟩
  have HB:=Fx hb
  clear hb
  go_wp2_with fail
  go_ret
  exact⟨by simp,HB.out⟩
 ·have hd:¬ ((n:Int)<=30):=by omega
  rw[decide_eq_false h30]
  clear h30
  go_enter func74,ntmps74
  go_wp2_with fail
  go_ret
  exact⟨by simp,Below.refl _ _⟩
theorem me (w:World) (rv:Value) (l:List Vl) (h:aj w rv 3 (l.map Vl.cells)) :
 Calls prog 76 #[rv] w fun e w'=>e=.returned (.bool (dj l))/\Below w.heap.size w w':=by
 have hnot:∀ (x:Bool) (w:World),(Op.unary .not (.bool x)).run prog w=.ok (.bool (!x)) w:=fun _ _=>rfl
 have HVD:=Fx (fun W (u:Vl)=>gH u.k u.n ⟨u.t.toArray⟩ W)
 have hl:=h.len
 obtain⟨ad,cap,rfl,hnc,hcm⟩:=h.form
 unfold maxLen at hcm
 rw[List.length_map] at *
 have HR:=Fx h
 have hres:dj l=(decide (l.length<=30) && !l.any kH):=rfl
 rw[hres]
 clear h hres
 generalize hN:l.length=n at *
 have HN:=Fx hN
 clear hN
 by_cases h30:n<=30
 ·have hd:¬ ((30:Int)<(n:Int)):=by omega
  have hd2:(n:Int)<=30:=by omega
  rw[decide_eq_true h30]
  go_enter func76,ntmps76
  go_wp2_with fail
  go_loopw [3] (fun i wr=>∃ k:Nat,k<=n/\i=.int .i64 k/\Hid ((l.take k).any kH=false)/\Hid (Below w.heap.size w wr)) (fun i _=>n - (intOf i).toNat)
  case atStart=>exact⟨0,Fz,rfl,Fx rfl,Fx Fy⟩
  case round =>
   obtain⟨k,hk,rfl,HP,BW⟩:=hrel
   by_cases hlt:k<n
   ·obtain⟨u,hu⟩:∃ u,l[k]? = some u:=⟨l[k]'(by rw[HN.out];exact hlt),FD (by rw[HN.out];exact hlt)⟩
    obtain⟨b,off,cap',hv,_,_,hbl,hce⟩:=(HR.out.keep BW.out).get (i:=k) (x:=u.cells) (by simp [hu])
    simp only[List.length_map,HN.out,Value.slice.injEq,true_and] at hv
    obtain⟨rfl,rfl⟩:=hv
    have q0:=hce 0 _ rfl
    have q1:=hce 1 _ rfl
    have q2:=hce 2 _ rfl
    simp only[Nat.add_zero] at q0
    have hdk:decide ((k:Int)<0)=false:=by simp
    have hdn:decide ((n:Int)<=(k:Int))=false:=by simp;omega
    have hvd:=fun W=>HVD.out W u
    obtain⟨vb,hvb⟩:∃ vb,ax u.k u.n u.t=vb:=⟨_,rfl⟩
    rw[show ax u.k u.n (⟨u.t.toArray⟩:ByteArray).data.toList=vb from hvb] at hvd
    have HVT:=Fx hvd
    have hst:=bX kH hu
    rw[HP.out,show kH u = !vb by unfold kH;rw[hvb]] at hst
    have HST:=Fx hst
    have HMU:=Fx (FC hu)
    have HVB:=Fx hvb
    clear hce hvd hvb hst hu
    cases vb with
    | true =>
      go_wp2_with fail
      refine (HVT.out _).mono ?_
      rintro e w2 ⟨rfl,hb⟩
      have HB:=Fx (BW.out.trans (hb.mono BW.out.size))
      clear hb
      go_wp2_with fail
      go_roundw
      case rel=>exact⟨k+1,by omega,by go_num,Fx (by rw[HST.out];rfl),HB⟩
      case measure=>simp [intOf];omega
    | false =>
      have hany:l.any kH=true:=List.any_eq_true.2 ⟨u,HMU.out,by unfold kH;rw[HVB.out];rfl⟩
      have HANY:=Fx hany
      clear hany
      go_wp2_with fail
      refine (HVT.out _).mono ?_
      rintro e w2 ⟨rfl,hb⟩
      have HB:=Fx (BW.out.trans (hb.mono BW.out.size))
      clear hb
      go_wp2_with fail
      go_ret
      exact⟨by rw[HANY.out];rfl,HB.out⟩
   ·obtain rfl:k=n:=by omega
    have hp:=HP.out
    rw[List.take_of_length_le (by rw[HN.out];exact FA)] at hp
    have HPP:=Fx hp
    clear hp
    go_wp2_with fail
    go_ret
    exact⟨by rw[HPP.out];rfl,BW.out⟩
 ·have hd:(30:Int)<(n:Int):=by omega
  have hd2:¬ ((n:Int)<=30):=by omega
  rw[decide_eq_false h30]
  clear h30
  go_enter func76,ntmps76
  go_wp2_with fail
  go_ret
  exact⟨by simp,Below.refl _ _⟩
theorem Tryz.infoTx9:(prog.info? 9).map (fun i=>(i.zero,i.size,i.bytes))=some (some (.string ⟨#[]⟩),1,16):=by kernel_rfl
def ll {α:Type} (f:α->List UInt8) (cs:List α) (k:Nat):List (List UInt8):=(cs.take k).map f++(cs.drop k).map fun _=>[]
theorem ks {α:Type} (f:α->List UInt8) (cs:List α) (k:Nat):(ll f cs k).length=cs.length:=by
 unfold ll
 simp
 omega
theorem kj {α:Type} (f:α->List UInt8) {cs:List α} {k:Nat} {c:α} (h:cs[k]? = some c):(ll f cs k).set k (f c)=ll f cs (k+1):=by
 have hk:=(FE h).1
 have hl:((cs.take k).map f).length=k:=by rw[List.length_map,List.length_take];omega
 have e1:(cs.take (k+1)).map f=(cs.take k).map f++[f c]:=by
  rw[List.take_add_one,h]
  simp
 have e2:cs.drop k=cs[k]::cs.drop (k+1):=List.drop_eq_getElem_cons hk
 unfold ll
 rw[e1,e2,List.map_cons,List.set_append_right _ _ (by omega),hl,Nat.sub_self,List.set_cons_zero,List.append_assoc]
 rfl
theorem rP {α:Type}:∀ l:List α,List.replicate l.length [Value.string ⟨#[]⟩]=(l.map fun _=>([]:List UInt8)).map bO
 | []=>rfl
 | _::l=>by
   simp only[List.length_cons,List.replicate_succ,List.map_cons]
   rw[rP l]
   rfl
theorem iT {α:Type} (f:α->List UInt8) (cs:List α):(madeCells #[.string ⟨#[]⟩] cs.length).toList=((ll f cs 0).map bO).flatten:=by
 have h:=px [.string ⟨#[]⟩] cs.length (by simp)
 rw[rP cs,show cs.length * ([Value.string ⟨#[]⟩]:List Value).length=cs.length from Nat.mul_one _] at h
 unfold ll
 simp only[List.take_zero,List.map_nil,List.drop_zero,List.nil_append]
 exact h
theorem kA {α:Type} (f:α->List UInt8) (cs:List α):ll f cs cs.length=cs.map f:=by
 unfold ll
 simp
theorem DC (l:List (List UInt8)):∀ x∈l.map bO,x.length=1:=by
 intro x hx
 simp at hx
 obtain⟨t,_,rfl⟩:=hx
 rfl
theorem cZ {w:World} {g k n cap base:Nat} {l:List (List UInt8)} {s:List UInt8} (hown:w.ownsRow base 9 1 (.slice (some ⟨g,0,none⟩) n cap) n (l.map bO).flatten) (hn:l.length=n) (hk:k<n) :
 (w.setCell ⟨g,k,none⟩ (.string ⟨s.toArray⟩)).ownsRow base 9 1 (.slice (some ⟨g,0,none⟩) n cap) n ((l.set k s).map bO).flatten/\aq (fun j=>j=g) w (w.setCell ⟨g,k,none⟩ (.string ⟨s.toArray⟩)):=by
 have h:=gC (cells:=[.string ⟨s.toArray⟩]) hown (DC l) (by rw[List.length_map,hn]) hk (by intro v hv;simp at hv;subst hv;rfl)
 have e:w.setCells g (k * ([Value.string ⟨s.toArray⟩]:List Value).length) [.string ⟨s.toArray⟩]=w.setCell ⟨g,k,none⟩ (.string ⟨s.toArray⟩):=by
  simp [World.setCells]
 rw[e] at h
 rw[List.map_set]
 exact⟨h.1,h.2.1⟩
theorem aq.ownG {b g:Nat} {w0 w w':World} (hz:w0.heap.size=g) (h:Below g w0 w) (hm:aq (fun k=>k=b) w w') (hb:g<=b):Below g w0 w':=by
 subst hz
 exact aq.own h hm hb
theorem Below.allocG {g:Nat} {w0 w:World} (hz:w0.heap.size=g) (h:Below g w0 w) (o:Obj):Below g w0 (w.alloc o):=by
 subst hz
 exact ae h o
theorem iS {base:Nat} {w:World} {v:Value} {n:Nat} {l:List (List UInt8)} (h:w.ownsRow base 9 1 v n (l.map bO).flatten) (hn:l.length=n) (hs:n<=8796093022208):aI w v l :=
 aj.ofOwn h (by rw[List.length_map,hn]) (DC l) (by rw[List.length_map,hn];exact hs)
theorem Bu (l:List (List UInt8)):(l.map fun s=>(⟨s.toArray⟩:ByteArray)).map (·.data.toList)=l:=by
 rw[List.map_map]
 conv=>rhs;rw[<-List.map_id l]
 apply List.map_congr_left
 intro a _
 simp
theorem iB (w:World) (v:Value) (l:List (List UInt8)) (sep:ByteArray) (h:aI w v l) (hj:(Lib.join l sep.data.toList).length<=140737488355328) :
 Calls prog 149 #[v,.string sep] w fun e w'=>e=.returned (.string ⟨(Lib.join l sep.data.toList).toArray⟩)/\Below w.heap.size w w':=by
 have hll:=h.len
 by_cases h0:l=[]
 ·subst h0
  obtain⟨ad,cap,rfl,_,_⟩:=h.form
  refine (Tryz.strings_Join_none ad cap sep w).mono ?_
  rintro e w' ⟨rfl,rfl⟩
  exact⟨by rw[Lib.join_nil],Below.refl _ _⟩
 ·have hl:0<l.length:=List.length_pos_iff.2 h0
  obtain⟨b,off,cap,rfl,hc,hm,hb,_⟩:=h.get (i:=0) (FD hl)
  have hj2:=Tryz.strings_Join b off cap (l.map fun s=>(⟨s.toArray⟩:ByteArray)) sep w (fun j x hx=>by
   rw[List.getElem?_map] at hx
   cases hs:l[j]? with
   | none=>rw[hs] at hx;simp at hx
   | some s =>
     rw[hs] at hx
     simp only[Option.map_some,Option.some.injEq] at hx
     subst hx
     obtain⟨b',off',cap',hv,_,_,_,hcell⟩:=h.get hs
     simp only[Value.slice.injEq,Option.some.injEq,Addr.mk.injEq,and_true,true_and] at hv
     obtain⟨⟨rfl,rfl⟩,rfl⟩:=hv
     exact hcell) hb (by rw[List.length_map];omega) (by rw[List.length_map];exact hc) (by rw[Bu];exact hj)
  rw[Bu,List.length_map] at hj2
  exact hj2
theorem Cw {S:ByteArray} {t l:List UInt8} (h:S.data.toList=l):S++⟨t.toArray⟩=⟨(l++t).toArray⟩:=by
 subst h
 apply ByteArray.ext
 simp
theorem tL (w:World) (rv:Value) (l:List Vl) (h:aj w rv 3 (l.map Vl.cells)) (hk:dj l=false) :
 Calls prog 73 #[rv] w fun e w'=>e=.returned (.string ⟨#[]⟩)/\Below w.heap.size w w':=by
 have hnot:∀ (x:Bool) (w:World),(Op.unary .not (.bool x)).run prog w=.ok (.bool (!x)) w:=fun _ _=>rfl
 have hv:=dO w rv l h
 rw[hk] at hv
 have HV:=Fx hv
 obtain⟨ad,cap,rfl,_,_⟩:=h.form
 clear hv h hk
 generalize (l.map Vl.cells).length=n at *
 go_enter func73,ntmps73
 go_wp2_with fail
 refine HV.out.mono ?_
 rintro e w2 ⟨rfl,hb2⟩
 have HB2:=Fx hb2
 clear hb2
 go_wp2_with fail
 go_ret
 exact⟨rfl,HB2.out⟩
theorem rm (w:World) (rv:Value) (l:List Vl) (h:aj w rv 3 (l.map Vl.cells)) (hk:dj l=true) (hr:∀ u∈l,bG u) (hg:bY w) :
 Calls prog 73 #[rv] w fun e w'=>e=.returned (.string ⟨(cz l).toArray⟩)/\Below w.heap.size w w':=by
 have hnot:∀ (x:Bool) (w:World),(Op.unary .not (.bool x)).run prog w=.ok (.bool (!x)) w:=fun _ _=>rfl
 obtain⟨i0,hi0,hz0,hz1,hz2⟩:=info_parts Tryz.infoTx9
 have hv:=dO w rv l h
 rw[hk] at hv
 obtain⟨hjl,hsl⟩:=gb hk hr
 obtain⟨h30,hval⟩:=gh hk
 have hsh:=fun W (hW:bY W) (u:Vl) (hu:u∈l)=>rF u.k u.n ⟨u.t.toArray⟩ W (hr u hu).1 (hr u hu).2 hW
 have hr0:=iT bB l
 have HRL0:=Fx (ks bB l)
 have HRS:=Fx (fun k a=>kj bB (cs:=l) (k:=k) (c:=a))
 have HRA:=Fx (kA bB l)
 have hjn:=fun W (v:Value) (hs:aI W v (l.map bB))=>iB W v (l.map bB) ⟨#[44,32]⟩ hs (by
  show (Lib.join (l.map bB) [44,32]).length<=_
  omega)
 have hres:cz l=[40]++Lib.join (l.map bB) [44,32]++[41]:=by simp [cz]
 rw[hres]
 obtain⟨ad,cap,rfl,hnc,hcm⟩:=h.form
 unfold maxLen at hcm
 rw[List.length_map] at *
 have HV:=Fx hv
 have HR:=Fx h
 have HSH:=Fx hsh
 have HG:=Fx hg
 have HJN:=Fx hjn
 have HJL:=Fx hjl
 clear hv h hsh hg hjn hjl hk hr hsl hval hres
 generalize hN:l.length=n at *
 have HN:=Fx hN
 have HR0:=Fx hr0
 clear hN hr0
 go_enter func73,ntmps73
 go_wp2_with fail
 refine HV.out.mono ?_
 rintro e w2 ⟨rfl,hb2⟩
 have HB2:=Fx hb2
 clear hb2 HV
 go_wp2_with (at_make;refine wpList_make_full _ rfl _ _ 28 rfl w.heap.size 9 i0 (.string ⟨#[]⟩) 1 underlying28 hi0 hz0 hz1 _ _ _ _ n rfl rfl rfl rfl ?b2 ?b3 ?b4 ?_)
 case b2=>rw[hz2];omega
 case b3=>unfold maxLen;omega
 case b4=>exact HB2.out.size
 intro w5 hown5 hgrow5
 rw[HR0.out] at hown5
 have HO5:=Fx hown5
 have hb5:Below w2.heap.size w2 w5:=Below.grown Fy hgrow5 FA (fun q hq=>by cases hq)
 have HB5:=Fx hb5
 have hw2:=HB2.out.size
 generalize hgz:w2.heap.size=g at *
 have HGZ:=Fx hgz
 clear hown5 hgrow5 hgz hb5
 go_wp2_with fail
 go_loopw [14] (fun i wr=>∃ k:Nat,k<=n/\i=.int .i64 k/\Hid (wr.ownsRow w.heap.size 9 1 (.slice (some ⟨g,0,none⟩) n n) n ((ll bB l k).map bO).flatten)/\Hid (Below g w2 wr)) (fun i _=>n - (intOf i).toNat)
 case atStart=>exact⟨0,Fz,rfl,HO5,HB5⟩
 case round =>
  obtain⟨k,hk,rfl,OW,BG⟩:=hrel
  obtain⟨wo,rfl⟩:∃ wo:World,wo=wr:=⟨_,rfl⟩
  have hbw:Below w.heap.size w wo:=HB2.out.trans (BG.out.mono hw2)
  have BW:=Fx hbw
  by_cases hkn:k<n
  ·obtain⟨u,hu⟩:∃ u,l[k]? = some u:=⟨l[k]'(by rw[HN.out];exact hkn),FD (by rw[HN.out];exact hkn)⟩
   obtain⟨b,off,cap',hv,_,_,hbl,hce⟩:=(HR.out.keep BW.out).get (i:=k) (x:=u.cells) (by simp [hu])
   simp only[List.length_map,HN.out,Value.slice.injEq,true_and] at hv
   obtain⟨rfl,rfl⟩:=hv
   have q0:=hce 0 _ rfl
   have q1:=hce 1 _ rfl
   have q2:=hce 2 _ rfl
   simp only[Nat.add_zero] at q0
   have HSET:=Fx (HRS.out k u hu)
   have hsv:=fun W (hW:bY W)=>HSH.out W hW u (FC hu)
   rw[show aW u.k u.n (⟨u.t.toArray⟩:ByteArray).data.toList=bB u by simp [bB]] at hsv
   have hdk:decide ((k:Int)<0)=false:=by simp
   have hdn:decide ((n:Int)<=(k:Int))=false:=by simp;omega
   have hgg:g<wo.heap.size:=(OW.out.lt g rfl).2
   have hw:Below g w2 (wo.alloc (.cells u.cells.toArray 111)):=Below.allocG HGZ.out BG.out _
   have hgl:=HG.out.below (HB2.out.trans (hw.mono hw2))
   have ho:=(MT.ofBelow (B:=0) (Ts:=[]) (ae (Below.refl wo.heap.size wo) (.cells u.cells.toArray 111))).ownsRow OW.out (by simp)
   have HSV:=Fx (hsv _ hgl)
   have HW:=Fx hw
   have HO:=Fx ho
   clear hu hce hsv hw hgl ho
   generalize bB u=word at *
   unfold Vl.cells at HSV HW HO
   go_wp2_with fail
   refine HSV.out.mono ?_
   rintro e w7 ⟨rfl,hb7⟩
   have o7:=(MT.ofBelow (B:=0) (Ts:=[]) hb7).ownsRow HO.out (by simp)
   obtain⟨⟨y7,hy7⟩,hyz7,hgl7⟩:=en o7 hkn (j:=0) (by decide)
   simp only[Nat.mul_one,Nat.add_zero] at hy7 hyz7
   have O7:=Fx o7
   have B7:=Fx (HW.out.trans (hb7.mono (by simp;omega)))
   clear o7 hb7
   go_wp2_with fail
   go_roundw
   case rel =>
    have h8:=cZ (s:=word) O7.out (HRL0.out k) hkn
    rw[HSET.out] at h8
    exact⟨k+1,by omega,by go_num,Fx h8.1,Fx (aq.ownG HGZ.out B7.out h8.2 FA)⟩
   case measure=>simp [intOf];omega
  ·obtain rfl:k=n:=by omega
   have hst:=iS OW.out (HRL0.out k) (by omega)
   rw[HRA.out] at hst
   have hj:=HJN.out wo _ hst
   have hjl:(Lib.join (l.map bB) [44,32]).length<=7800:=HJL.out
   have hcc:ByteArray.mk #[40]++ByteArray.mk (Lib.join (l.map bB) [44,32]).toArray++ByteArray.mk #[41]=⟨([40]++Lib.join (l.map bB) [44,32]++[41]).toArray⟩:=by
    apply ByteArray.ext
    simp
   have hj2:Calls prog 149 #[.slice (some ⟨g,0,none⟩) k k,.string ⟨#[44,32]⟩] wo fun e w'=>e=.returned (.string ⟨(Lib.join (l.map bB) [44,32]).toArray⟩)/\Below wo.heap.size wo w':=hj
   obtain⟨J,hJ⟩:∃ J,J=Lib.join (l.map bB) [44,32]:=⟨_,rfl⟩
   rw[<-hJ] at hj2 hjl hcc
   have HJJ:=Fx hJ
   have HJ:=Fx hj2
   have HCC:=Fx hcc
   have hl1:¬ 9223372036854775807<1+J.length:=by omega
   have hl2:¬ 9223372036854775807<1+J.length+1:=by omega
   clear hst hj hj2 hcc hJ
   go_wp2_with fail
   refine HJ.out.mono ?_
   rintro e w8 ⟨rfl,hb8⟩
   have HB8:=Fx (BW.out.trans (hb8.mono BW.out.size))
   clear hb8
   go_wp2_with fail
   go_ret
   refine⟨?_,HB8.out⟩
   rw[<-HJJ.out]
   exact congrArg (fun x=>Ending.returned (Value.string x)) HCC.out
theorem mc (w:World) (rv:Value) (l:List Vl) (h:aj w rv 3 (l.map Vl.cells)) (hr:∀ u∈l,bG u) (hg:bY w) :
 Calls prog 73 #[rv] w fun e w'=>e=.returned (.string ⟨(bW l).toArray⟩)/\Below w.heap.size w w':=by
 unfold bW
 cases hk:dj l with
 | true =>
   rw[if_pos rfl]
   exact rm w rv l h hk hr hg
 | false =>
   rw[if_neg (by decide)]
   exact tL w rv l h hk
theorem vh (l:List (List UInt8)) (x sep:List UInt8) (h:l≠[]):Lib.join (l++[x]) sep=Lib.join l sep++sep++x:=by
 cases l with
 | nil=>exact absurd rfl h
 | cons a r =>
   rw[List.cons_append,Lib.join_cons,Lib.join_cons]
   simp [Lib.joinTail]
theorem vP {α:Type} (f:α->List UInt8) {l:List α} {k:Nat} {x:α} (h:l[k]? = some x) (h0:k≠0):Lib.join ((l.take (k+1)).map f) [44,32]=Lib.join ((l.take k).map f) [44,32]++[44,32]++f x:=by
 have hk:=(FE h).1
 have e:(l.take (k+1)).map f=(l.take k).map f++[f x]:=by
  rw[List.take_add_one,h]
  simp
 rw[e]
 refine vh _ _ _ fun e=>?_
 have:((l.take k).map f).length=k:=by rw[List.length_map,List.length_take];omega
 rw[e] at this
 simp at this
 exact h0 this.symm
theorem sk {α:Type} (f:α->List UInt8) {l:List α} {x:α} (h:l[0]? = some x):Lib.join ((l.take (0+1)).map f) [44,32]=f x:=by
 have e:(l.take (0+1)).map f=(l.take 0).map f++[f x]:=by
  rw[List.take_add_one,h]
  simp
 rw[e]
 simp [Lib.join_one]
theorem mj (w:World) (rv:Value) (l:List Vl) (h:aj w rv 3 (l.map Vl.cells)) (hk:dj l=true) (hr:∀ u∈l,bG u) :
 Calls prog 26 #[rv] w fun e w'=>e=.returned (.string ⟨(cz l).toArray⟩)/\Below w.heap.size w w':=by
 have hnot:∀ (x:Bool) (w:World),(Op.unary .not (.bool x)).run prog w=.ok (.bool (!x)) w:=fun _ _=>rfl
 have hv:=me w rv l h
 rw[hk] at hv
 obtain⟨h30,hval⟩:=gh hk
 have hwl:=pu hk hr
 have hsh:=fun W (u:Vl) (hu:u∈l)=>sK u.k u.n ⟨u.t.toArray⟩ W (hr u hu).1 (hr u hu).2
 have hres:cz l=[40]++Lib.join (l.map bB) [44,32]++[41]:=by simp [cz]
 rw[hres]
 obtain⟨ad,cap,rfl,hnc,hcm⟩:=h.form
 unfold maxLen at hcm
 rw[List.length_map] at *
 have HV:=Fx hv
 have HR:=Fx h
 have HSH:=Fx hsh
 have HWL:=Fx hwl
 clear hv h hsh hwl hk hr hval hres
 generalize hN:l.length=n at *
 have HN:=Fx hN
 clear hN
 go_enter func26,ntmps26
 go_wp2_with fail
 refine HV.out.mono ?_
 rintro e w2 ⟨rfl,hb2⟩
 have HB2:=Fx hb2
 clear hb2 HV
 go_wp2_with fail
 go_loopw [3,4] (fun s i wr=>∃ (k:Nat) (S:ByteArray),k<=n/\s=.string S/\i=.int .i64 k/\S.size<=1+260 * k/\Hid (S.data.toList=[40]++Lib.join ((l.take k).map bB) [44,32])/\Hid (Below w.heap.size w wr)) (fun _ i _=>n - (intOf i).toNat)
 case atStart=>exact⟨0,⟨#[40]⟩,Fz,rfl,rfl,by decide,Fx (by simp [Lib.join_nil]),HB2⟩
 case round =>
  obtain⟨k,S,hk,rfl,rfl,hS,HS,HW⟩:=hrel
  by_cases hkn:k<n
  ·obtain⟨u,hu⟩:∃ u,l[k]? = some u:=⟨l[k]'(by rw[HN.out];exact hkn),FD (by rw[HN.out];exact hkn)⟩
   obtain⟨b,off,cap',hv,_,_,hbl,hce⟩:=(HR.out.keep HW.out).get (i:=k) (x:=u.cells) (by simp [hu])
   simp only[List.length_map,HN.out,Value.slice.injEq,true_and] at hv
   obtain⟨rfl,rfl⟩:=hv
   have q0:=hce 0 _ rfl
   have q1:=hce 1 _ rfl
   have q2:=hce 2 _ rfl
   simp only[Nat.add_zero] at q0
   have hsv:=fun W=>HSH.out W u (FC hu)
   rw[show aW u.k u.n (⟨u.t.toArray⟩:ByteArray).data.toList=bB u by simp [bB]] at hsv
   have hlw:=HWL.out u (FC hu)
   have hdk:decide ((k:Int)<0)=false:=by simp
   have hdn:decide ((n:Int)<=(k:Int))=false:=by simp;omega
   have z2:(⟨#[44,32]⟩:ByteArray).size=2:=rfl
   by_cases h0:k=0
   ·subst h0
    have e0:=sk bB hu
    generalize bB u=word at *
    have HSV:=Fx hsv
    have E0:=Fx e0
    have zc:(⟨word.toArray⟩:ByteArray).size=word.length:=by simp [ByteArray.size]
    have b1:S.size+word.length<=9223372036854775807:=by omega
    simp only[Nat.zero_mul,Nat.add_zero] at q0 q1 q2
    clear e0 hsv hu hce
    go_wp2_with fail
    refine (HSV.out _).mono ?_
    rintro e w4 ⟨rfl,hb4⟩
    have HW4:=Fx (HW.out.trans (hb4.mono HW.out.size))
    clear hb4
    go_wp2_with fail
    go_roundw
    case rel=>exact⟨0+1,_,by omega,rfl,by go_num,by simp only[ByteArray.size_append];omega,Fx (by rw[E0.out];simp [HS.out,Lib.join_nil]),HW4⟩
    case measure=>simp [intOf];omega
   ·have e0:=vP bB hu h0
    generalize bB u=word at *
    have HSV:=Fx hsv
    have E0:=Fx e0
    have zc:(⟨word.toArray⟩:ByteArray).size=word.length:=by simp [ByteArray.size]
    have hk0:decide ((0:Int)<(k:Int))=true:=by simp;omega
    have hk1:0<k:=by omega
    have b0:S.size+2<=9223372036854775807:=by omega
    have b1:S.size+2+word.length<=9223372036854775807:=by omega
    clear e0 hsv hu hce
    go_wp2_with fail
    refine (HSV.out _).mono ?_
    rintro e w4 ⟨rfl,hb4⟩
    have HW4:=Fx (HW.out.trans (hb4.mono HW.out.size))
    clear hb4
    go_wp2_with fail
    go_roundw
    case rel=>exact⟨k+1,_,by omega,rfl,by go_num,by simp only[ByteArray.size_append];omega,Fx (by rw[E0.out];simp [HS.out]),HW4⟩
    case measure=>simp [intOf];omega
  ·obtain rfl:k=n:=by omega
   have hs:=HS.out
   rw[List.take_of_length_le (by rw[HN.out];exact FA)] at hs
   have b1:S.size+1<=9223372036854775807:=by omega
   have hcc:S++⟨#[41]⟩=⟨([40]++Lib.join (l.map bB) [44,32]++[41]).toArray⟩:=by
    exact Cw hs
   have HCC:=Fx hcc
   clear hs hcc
   go_wp2_with fail
   go_ret
   exact⟨(congrArg (fun x=>Ending.returned (Value.string x)) HCC.out).trans (by simp),HW.out⟩
theorem rH (w:World) (c:eP) (rv:Value) (h:aj w rv 3 (c.row.map Vl.cells)) (hk:dj c.row=true) (hr:∀ u∈c.row,bG u) (hs:c.rel.length<=140737488355328) (hg:bY w) :
 Calls prog 151 #[.agg #[.bool c.add,.string ⟨c.rel.toArray⟩,rv]] w fun e w'=>e=.returned (.string ⟨(cG c).toArray⟩)/\Below w.heap.size w w':=by
 have hb0:Below w.heap.size w (w.alloc (.cells #[.bool c.add,.string ⟨c.rel.toArray⟩,rv] 68)):=ae Fy _
 have hbx:=af.new w 68 #[.bool c.add,.string ⟨c.rel.toArray⟩,rv]
 have hsh:=fun W (hW:Below (w.alloc (.cells #[.bool c.add,.string ⟨c.rel.toArray⟩,rv] 68)).heap.size (w.alloc (.cells #[.bool c.add,.string ⟨c.rel.toArray⟩,rv] 68)) W)=>mc W rv c.row ((h.keep hb0).keep hW) hr ((hg.below hb0).below hW)
 have hst:bW c.row=cz c.row:=by unfold bW;rw[if_pos hk]
 have hsz:=(gb hk hr).2
 rw[hst] at hsh
 have HSH:=Fx hsh
 have HB0:=Fx hb0
 have HBX:=Fx hbx
 have hct:⟨#[if c.add=true then 43 else 45]⟩++(⟨c.rel.toArray⟩:ByteArray)++⟨(cz c.row).toArray⟩=⟨(cG c).toArray⟩:=by
  apply ByteArray.ext
  simp [cG]
 obtain⟨ra,rc,rfl,_,_⟩:=h.form
 have x0:=HBX.out.cell 0
 have x1:=HBX.out.cell 1
 have x2:=HBX.out.cell 2
 have xl:=HBX.out.lt
 simp only[FF] at x0 x1 x2
 have zr:(⟨c.rel.toArray⟩:ByteArray).size=c.rel.length:=by simp [ByteArray.size]
 have zt:(⟨(cz c.row).toArray⟩:ByteArray).size=(cz c.row).length:=by simp [ByteArray.size]
 have hl1:¬ 9223372036854775807<1+c.rel.length:=by omega
 have hl2:¬ 9223372036854775807<1+c.rel.length+(cz c.row).length:=by omega
 have HCT:=Fx hct
 clear h hb0 hbx hsh hst hct hk hr hg
 generalize cz c.row=T at *
 generalize (c.row.map Vl.cells).length=n at *
 obtain⟨W0,hW0⟩:∃ W0,w.alloc (.cells #[.bool c.add,.string ⟨c.rel.toArray⟩,.slice ra n rc] 68)=W0:=⟨_,rfl⟩
 rw[hW0] at HSH HB0 HBX x0 x1 x2 xl
 have HW0:=Fx hW0
 clear hW0
 cases hadd:c.add with
 | true =>
   rw[hadd] at HCT HW0 x0
   rw[if_pos rfl] at HCT
   go_enter func151,ntmps151
   go_wp2_with fail
   rw[HW0.out]
   first
    | go_region_law (go_simp;go_at_call 73;refine (HSH.out _ (ay Fy)).mono ?_;rintro e w6 ⟨rfl,hb6⟩;have B6:Below W0.heap.size W0 w6:=dZ (ay Fy) hb6;have hx6:=HBX.out.below B6 HBX.out.lt;have x16:=hx6.cell 1;have xl6:=hx6.lt;simp only[FF] at x16;have HB6:=Fx B6;clear B6 hx6 hb6)
    | fail "no way"
   all_goals
    go_wp2_with fail
    go_ret
    exact⟨congrArg (fun x=>Ending.returned (Value.string x)) HCT.out,HB0.out.trans (HB6.out.mono HB0.out.size)⟩
 | false =>
   rw[hadd] at HCT HW0 x0
   rw[if_neg (by decide)] at HCT
   go_enter func151,ntmps151
   go_wp2_with fail
   rw[HW0.out]
   first
    | go_region_law (go_simp;go_at_call 73;refine (HSH.out _ (ay Fy)).mono ?_;rintro e w6 ⟨rfl,hb6⟩;have B6:Below W0.heap.size W0 w6:=dZ (ay Fy) hb6;have hx6:=HBX.out.below B6 HBX.out.lt;have x16:=hx6.cell 1;have xl6:=hx6.lt;simp only[FF] at x16;have HB6:=Fx B6;clear B6 hx6 hb6)
    | fail "no way"
   all_goals
    go_wp2_with fail
    go_ret
    exact⟨congrArg (fun x=>Ending.returned (Value.string x)) HCT.out,HB0.out.trans (HB6.out.mono HB0.out.size)⟩
theorem yN {l:List eP} {c:eP} (h:c∈l) (hg:eu c=false):gB l=[]:=by
 unfold gB
 rw[if_neg]
 intro ha
 rw[List.all_eq_true] at ha
 rw[ha c h] at hg
 cases hg
theorem rX (w:World) (v:Value) (l:List eP) (h:cU w v l) (hr:∀ c∈l,∀ u∈c.row,bG u) (hs:∀ c∈l,c.rel.length<=140737488355328) (hjl:l.all eu=true->(Lib.join (l.map cG) [44,32]).length<=140737488355328) (hg:bY w) :
 Calls prog 70 #[v] w fun e w'=>e=.returned (.string ⟨(gB l).toArray⟩)/\Below w.heap.size w w':=by
 have hnot:∀ (x:Bool) (w:World),(Op.unary .not (.bool x)).run prog w=.ok (.bool (!x)) w:=fun _ _=>rfl
 obtain⟨i0,hi0,hz0,hz1,hz2⟩:=info_parts Tryz.infoTx9
 have hr0:=iT cG l
 have HRL0:=Fx (ks cG l)
 have HRS:=Fx (fun k a=>kj cG (cs:=l) (k:=k) (c:=a))
 have HRA:=Fx (kA cG l)
 have hjn:=fun W (v:Value) (hs:aI W v (l.map cG)) (ha:l.all eu=true)=>iB W v (l.map cG) ⟨#[44,32]⟩ hs (hjl ha)
 have hlen:=h.len
 obtain⟨ad,cap,rfl,hnc,hcm⟩:=h.form
 unfold maxLen at hcm
 have HR:=Fx h
 have HG:=Fx hg
 have HJN:=Fx hjn
 have HRG:=Fx hr
 have HSL:=Fx hs
 have HBAD:=Fx (fun c hc hb=>yN (l:=l) (c:=c) hc hb)
 clear h hg hjn hjl hr hs
 generalize hN:l.length=n at *
 have HN:=Fx hN
 have HR0:=Fx hr0
 clear hN hr0
 go_enter func70,ntmps70
 go_wp2_with (at_make;refine wpList_make_full _ rfl _ _ 28 rfl w.heap.size 9 i0 (.string ⟨#[]⟩) 1 underlying28 hi0 hz0 hz1 _ _ _ _ n rfl rfl rfl rfl ?b2 ?b3 ?b4 ?_)
 case b2=>first | omega | (rw[hz2];omega)
 case b3=>unfold maxLen;omega
 try (case b4=>omega)
 intro w5 hown5 hgrow5
 rw[HR0.out] at hown5
 have HO5:=Fx hown5
 have hb5:Below w.heap.size w w5:=Below.grown Fy hgrow5 FA (fun q hq=>by cases hq)
 have HB5:=Fx hb5
 generalize hgz:w.heap.size=g at *
 have HGZ:=Fx hgz
 clear hown5 hgrow5 hgz hb5
 go_wp2_with fail
 go_loopw [11] (fun i wr=>∃ k:Nat,k<=n/\i=.int .i64 k/\Hid ((l.take k).all eu=true)/\Hid (wr.ownsRow g 9 1 (.slice (some ⟨g,0,none⟩) n n) n ((ll cG l k).map bO).flatten)/\Hid (Below g w wr)) (fun i _=>n - (intOf i).toNat)
 case atStart=>exact⟨0,Fz,rfl,Fx rfl,HO5,HB5⟩
 case round =>
  obtain⟨k,hk,rfl,AL,OW,BG⟩:=hrel
  obtain⟨wo,rfl⟩:∃ wo:World,wo=wr:=⟨_,rfl⟩
  have hbw:Below w.heap.size w wo:=by rw[HGZ.out];exact BG.out
  have BW:=Fx hbw
  clear hbw
  by_cases hkn:k<n
  ·obtain⟨c,hc⟩:∃ c,l[k]? = some c:=⟨l[k]'(by rw[HN.out];exact hkn),FD (by rw[HN.out];exact hkn)⟩
   obtain⟨b,off,cap',rv,hv,_,_,hbl,q0,q1,q2,hrow,hrl⟩:=(HR.out.keep BW.out).get hc
   rw[HN.out] at hv
   simp only[Value.slice.injEq,true_and] at hv
   obtain⟨rfl,rfl⟩:=hv
   obtain⟨ra,rc,rfl,_,_⟩:=hrow.form
   have hcm':=FC hc
   have HSET:=Fx (HRS.out k c hc)
   have hall:=oF eu hc
   rw[AL.out,Bool.true_and] at hall
   have hdk:decide ((k:Int)<0)=false:=by simp
   have hdn:decide ((n:Int)<=(k:Int))=false:=by simp;omega
   have hgg:g<wo.heap.size:=(OW.out.lt g rfl).2
   have bk:Below wo.heap.size wo (wo.alloc (.cells #[.bool c.add,.string ⟨c.rel.toArray⟩,.slice ra (c.row.map Vl.cells).length rc] 68)):=ae Fy _
   have hbx:=af.new wo 68 #[.bool c.add,.string ⟨c.rel.toArray⟩,.slice ra (c.row.map Vl.cells).length rc]
   have hnm:=ei ⟨c.rel.toArray⟩ (wo.alloc (.cells #[.bool c.add,.string ⟨c.rel.toArray⟩,.slice ra (c.row.map Vl.cells).length rc] 68)) (by have:=HSL.out c hcm';simpa [ByteArray.size] using this)
   have hvl:=dO (wo.alloc (.cells #[.bool c.add,.string ⟨c.rel.toArray⟩,.slice ra (c.row.map Vl.cells).length rc] 68)) _ c.row (hrow.keep bk)
   have hso:=fun W hW hk=>rH W c (.slice ra (c.row.map Vl.cells).length rc) ((hrow.keep bk).keep (w':=W) hW) hk (HRG.out c hcm') (HSL.out c hcm') (HG.out.below (BW.out.trans ((bk.trans (hW.mono bk.size)).mono BW.out.size)))
   have ho1:=(MT.ofBelow (B:=0) (Ts:=[]) bk).ownsRow OW.out (by simp)
   rw[show (⟨c.rel.toArray⟩:ByteArray).data.toList=c.rel by simp] at hnm
   have HNM:=Fx hnm
   have HVL:=Fx hvl
   have HSO:=Fx hso
   have HBX:=Fx hbx
   have HO1:=Fx ho1
   have HBK:=Fx (Below.trans BG.out (bk.mono (by omega)))
   have HALL:=Fx hall
   have HMEM:=Fx hcm'
   have hgc:eu c=(ai c.rel && dj c.row):=rfl
   have HGC:=Fx hgc
   clear hc hrow bk hbx hnm hvl hso ho1 hall hcm' hgc
   generalize (c.row.map Vl.cells).length=rn at *
   obtain⟨W1,hW1⟩:∃ W1,wo.alloc (.cells #[.bool c.add,.string ⟨c.rel.toArray⟩,.slice ra rn rc] 68)=W1:=⟨_,rfl⟩
   rw[hW1] at HNM HVL HSO HBX HO1 HBK
   have HW1:=Fx hW1
   have x0:=HBX.out.cell 0
   have x1:=HBX.out.cell 1
   have x2:=HBX.out.cell 2
   have xl:=HBX.out.lt
   simp only[FF] at x0 x1 x2
   clear hW1
   cases hnb:ai c.rel with
   | false =>
     rw[hnb] at HNM
     have hbad:=HBAD.out c HMEM.out (by rw[HGC.out,hnb];rfl)
     have HBD:=Fx hbad
     clear hbad
     go_wp2_with fail
     rw[HW1.out]
     refine HNM.out.mono ?_
     rintro e w6 ⟨rfl,rfl⟩
     go_wp2_with fail
     go_ret
     exact⟨by rw[HBD.out];rfl,by have h:=HBK.out;rw[<-HGZ.out] at h;exact h⟩
   | true =>
     rw[hnb] at HNM
     cases hrb:dj c.row with
     | false =>
       rw[hrb] at HVL
       have hbad:=HBAD.out c HMEM.out (by rw[HGC.out,hnb,hrb];rfl)
       have HBD:=Fx hbad
       clear hbad
       go_wp2_with fail
       rw[HW1.out]
       refine HNM.out.mono ?_
       rintro e w6 ⟨rfl,rfl⟩
       go_wp2_with fail
       refine HVL.out.mono ?_
       rintro e w7 ⟨rfl,hb7⟩
       have HB7:=Fx (HBK.out.trans (hb7.mono (by omega)))
       clear hb7
       go_wp2_with fail
       go_ret
       exact⟨by rw[HBD.out];rfl,by have h:=HB7.out;rw[<-HGZ.out] at h;exact h⟩
     | true =>
       rw[hrb] at HVL
       have hgood:eu c=true:=by rw[HGC.out,hnb,hrb];rfl
       have HGD:=Fx hgood
       clear hgood
       go_wp2_with fail
       rw[HW1.out]
       refine HNM.out.mono ?_
       rintro e w6 ⟨rfl,rfl⟩
       go_wp2_with fail
       refine HVL.out.mono ?_
       rintro e w7 ⟨rfl,hb7⟩
       have hx7:=HBX.out.below hb7 HBX.out.lt
       have x07:=hx7.cell 0
       have x17:=hx7.cell 1
       have x27:=hx7.cell 2
       have xl7:=hx7.lt
       simp only[FF] at x07 x17 x27
       have HSO7:=Fx (HSO.out _ hb7 hrb)
       have HO7:=Fx ((MT.ofBelow (B:=0) (Ts:=[]) hb7).ownsRow HO1.out (by simp))
       have HB7:=Fx (HBK.out.trans (hb7.mono (by omega)))
       clear hb7 hx7
       generalize cG c=word at *
       go_wp2_with fail
       refine HSO7.out.mono ?_
       rintro e w8 ⟨rfl,hb8⟩
       have o8:=(MT.ofBelow (B:=0) (Ts:=[]) hb8).ownsRow HO7.out (by simp)
       obtain⟨⟨y8,hy8⟩,hyz8,hgl8⟩:=en o8 hkn (j:=0) (by decide)
       simp only[Nat.mul_one,Nat.add_zero] at hy8 hyz8
       have O8:=Fx o8
       have B8:=Fx (HB7.out.trans (hb8.mono (by omega)))
       clear o8 hb8
       go_wp2_with fail
       go_roundw
       case rel =>
        have h9:=cZ (s:=word) O8.out (HRL0.out k) hkn
        rw[HSET.out] at h9
        exact⟨k+1,by omega,by go_num,Fx (HALL.out.trans HGD.out),Fx h9.1,Fx (aq.ownG HGZ.out B8.out h9.2 FA)⟩
       case measure=>simp [intOf];omega
  ·obtain rfl:k=n:=by omega
   have hst:=iS OW.out (HRL0.out k) (by omega)
   rw[HRA.out] at hst
   have hal:=AL.out
   rw[List.take_of_length_le (by rw[HN.out];exact FA)] at hal
   have hj:=HJN.out wo _ hst hal
   have hsb:gB l=Lib.join (l.map cG) [44,32]:=by unfold gB;rw[if_pos hal]
   have HJ:=Fx hj
   have HSB:=Fx hsb
   clear hst hj hal hsb
   go_wp2_with fail
   refine HJ.out.mono ?_
   rintro e w8 ⟨rfl,hb8⟩
   have HB8:=Fx (BW.out.trans (hb8.mono BW.out.size))
   clear hb8
   go_wp2_with fail
   go_ret
   exact⟨by rw[HSB.out];rfl,HB8.out⟩
