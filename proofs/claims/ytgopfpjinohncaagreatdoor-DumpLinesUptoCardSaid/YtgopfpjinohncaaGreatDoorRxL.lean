/- Lists of relations: what they are in memory. Does a row fit a relation? plainly. Is there a k? plainly. slices.IndexFunc, ContainsFunc at osier/api.Value, walked, told by the place (printed by idxn.py). row.Valid and osierref02.Valid, walked. Texts while they are written; strings.Join of any list of texts. row.Show and osierref02.Show, walked. -/
import Derived.Test.YtgopfpjinohncaaGreatDoorKaL
import Derived.Test.YtgopfpjinohncaaGreatDoorGcL
import Derived.Test.YtgopfpjinohncaaGreatDoorJyL
import Derived.Test.YtgopfpjinohncaaGreatDoorGbL
import Derived.Test.YtgopfpjinohncaaGreatDoorLeL
import Derived.Test.YtgopfpjinohncaaGreatDoorGmL
import Derived.Test.YtgopfpjinohncaaGreatDoorGnL
import Derived.Shelf.Abstract
import Derived.Deep.RegionLaw
import Derived.Deep.RegionHeld3
import Derived.Lib.Join
namespace Go.Proofs.YtgopfpjinohncaaGreatDoor
open Go.RowKit
set_option linter.unusedVariables false
def RelC (w:World) (cells:List Value) (r:Rln):Prop:=∃ cv,cells=[.string ⟨r.name.toArray⟩,cv]/\ColsAt w cv r.cols/\r.cols.length<=5864062014634
def RelsAt (w:World) (v:Value) (l:List Rln):Prop:=∃ rows,RowAt w v 2 rows/\All2 (RelC w) rows l
theorem RelC.keep {w w':World} {row:List Value} {a:Rln} (h:RelC w row a) (hb:Below w.heap.size w w'):RelC w' row a:=by
 obtain⟨cv,rfl,h2,h3⟩:=h
 exact⟨cv,rfl,RowAt.keep h2 hb,h3⟩
theorem RelsAt.keep {w w':World} {v:Value} {l:List Rln} (h:RelsAt w v l) (hb:Below w.heap.size w w'):RelsAt w' v l:=by
 obtain⟨rows,h1,h2⟩:=h
 exact⟨rows,h1.keep hb,h2.mono fun b a hh=>hh.keep hb⟩
theorem RelsAt.form {w:World} {v:Value} {l:List Rln} (h:RelsAt w v l):∃ (ad:Option Addr) (cap:Nat),v=.slice ad l.length cap/\l.length<=cap/\cap<=maxLen:=by
 obtain⟨rows,h1,h2⟩:=h
 obtain⟨ad,cap,hv,h3,h4⟩:=h1.form
 rw[h2.length] at hv h3
 exact⟨ad,cap,hv,h3,h4⟩
theorem RelsAt.get {w:World} {v:Value} {l:List Rln} (h:RelsAt w v l) {i:Nat} {a:Rln} (hi:l[i]? = some a):∃ (b off cap:Nat) (cv:Value),v=.slice (some ⟨b,off,none⟩) l.length cap/\l.length<=cap/\cap<=maxLen/\b<w.heap.size /\
 w.cell? ⟨b,off+i * 2,none⟩=some (.string ⟨a.name.toArray⟩)/\w.cell? ⟨b,off+i * 2+1,none⟩=some cv/\ColsAt w cv a.cols/\a.cols.length<=5864062014634:=by
 obtain⟨rows,h1,h2⟩:=h
 obtain⟨row,hr,cv,rfl,h3,h4⟩:=h2.get hi
 obtain⟨b,off,cap,hv,h5,h6,h7,h8⟩:=h1.get hr
 rw[h2.length] at hv h5
 exact⟨b,off,cap,cv,hv,h5,h6,h7,h8 0 _ rfl,h8 1 _ rfl,h3,h4⟩
theorem RelsAt.len {w:World} {v:Value} {l:List Rln} (h:RelsAt w v l):l.length<=8796093022208:=by
 obtain⟨rows,h1,h2⟩:=h
 rw[<-h2.length]
 exact h1.len
def InQ (Q:Nat->Prop) (v:Value):Prop:=∀ k,v.ownBlock=some k->Q k
def RelO (Q:Nat->Prop) (w:World) (row:List Value) (c:Rln):Prop:=∃ cv,row=[.string ⟨c.name.toArray⟩,cv]/\ColsOwn 0 w cv c.cols/\InQ Q cv
def RelsOwn (Q:Nat->Prop) (w:World) (v:Value) (l:List Rln):Prop :=
 ∃ rows:List (List Value),w.ownsRow 0 57 2 v l.length rows.flatten/\InQ Q v/\All2 (RelO Q w) rows l
theorem RelO.mono {Q Q':Nat->Prop} {w:World} {row:List Value} {a:Rln} (h:RelO Q w row a) (hq:∀ k,k<w.heap.size->Q k->Q' k):RelO Q' w row a:=by
 obtain⟨cv,rfl,h2,h3⟩:=h
 exact⟨cv,rfl,h2,fun k hk=>hq k (World.ownsRow.lt h2 k hk).2 (h3 k hk)⟩
theorem RelO.mod {Q F:Nat->Prop} {w w':World} {row:List Value} {a:Rln} (h:RelO Q w row a) (hm:Mod F w w') (hn:∀ k,Q k->¬ F k):RelO Q w' row a:=by
 obtain⟨cv,rfl,h2,h3⟩:=h
 exact⟨cv,rfl,hm.ownsRow h2 (fun k hk=>hn k (h3 k hk)),h3⟩
theorem RelsOwn.mono {Q Q':Nat->Prop} {w:World} {v:Value} {l:List Rln} (h:RelsOwn Q w v l) (hq:∀ k,k<w.heap.size->Q k->Q' k):RelsOwn Q' w v l:=by
 obtain⟨rows,h1,h2,h3⟩:=h
 exact⟨rows,h1,fun k hk=>hq k (World.ownsRow.lt h1 k hk).2 (h2 k hk),h3.mono fun b a hh=>hh.mono hq⟩
theorem RelsOwn.mod {Q F:Nat->Prop} {w w':World} {v:Value} {l:List Rln} (h:RelsOwn Q w v l) (hm:Mod F w w') (hn:∀ k,Q k->¬ F k):RelsOwn Q w' v l:=by
 obtain⟨rows,h1,h2,h3⟩:=h
 exact⟨rows,hm.ownsRow h1 (fun k hk=>hn k (h2 k hk)),h2,h3.mono fun b a hh=>hh.mod hm hn⟩
theorem RelsOwn.at {Q:Nat->Prop} {w:World} {v:Value} {l:List Rln} (h:RelsOwn Q w v l) (hl:l.length<=8796093022208) (hr:∀ c∈l,c.cols.length<=5864062014634):RelsAt w v l:=by
 obtain⟨rows,h1,_,h2⟩:=h
 have hll:=h2.length
 refine⟨rows,RowAt.ofOwn h1 hll.symm ?_ (by omega),all2_and h2 fun c x hx hh=>?_⟩
 ·intro c hc
  obtain⟨x,_,cv,rfl,_⟩:=all2_mem h2 c hc
  rfl
 ·obtain⟨cv,rfl,ho,_⟩:=hh
  have hx2:=hr x hx
  exact⟨cv,rfl,ColsOwn.at ho (by omega),hx2⟩
def okF (u:Vl) (c:Col):Bool:=validB u.k u.n u.t && decide (u.k=c.k)
def fitG (p:Vl × Col):Bool:=okF p.1 p.2
def fitsB (row:List Vl) (cols:List Col):Bool:=decide (row.length=cols.length) && (row.zip cols).all fitG
theorem zip_get {row:List Vl} {cols:List Col} {k:Nat} {u:Vl} {c:Col} (h1:row[k]? = some u) (h2:cols[k]? = some c):(row.zip cols)[k]? = some (u,c):=by
 rw[List.getElem?_zip_eq_some]
 exact⟨h1,h2⟩
theorem fits_no {row:List Vl} {cols:List Col} {k:Nat} {u:Vl} {c:Col} (h1:row[k]? = some u) (h2:cols[k]? = some c) (h:okF u c=false):fitsB row cols=false:=by
 unfold fitsB
 have:(row.zip cols).all fitG=false:=by
  rw[List.all_eq_false]
  exact⟨(u,c),List.mem_of_getElem? (zip_get h1 h2),by simp only[fitG];rw[h];decide⟩
 rw[this,Bool.and_false]
theorem fits_len {row:List Vl} {cols:List Col} (h:row.length≠cols.length):fitsB row cols=false:=by
 unfold fitsB
 rw[decide_eq_false h]
 rfl
theorem fits_yes {row:List Vl} {cols:List Col} (h:row.length=cols.length) (ha:∀ (k:Nat) (u:Vl) (c:Col),row[k]? = some u->cols[k]? = some c->okF u c=true):fitsB row cols=true:=by
 unfold fitsB
 rw[decide_eq_true h,Bool.true_and,List.all_eq_true]
 intro p hp
 obtain⟨k,hk⟩:=List.getElem?_of_mem hp
 obtain⟨u,c⟩:=p
 rw[List.getElem?_zip_eq_some] at hk
 exact ha k u c hk.1 hk.2
def plI (d:List Rln) (x:List UInt8):Int:=idxI (d.map (·.name)) x
def fitD (d:List Rln) (x:List UInt8) (row:List Vl):Int:=match d[(plI d x).toNat]?,decide (0<=plI d x) with
 | some r,true=>if fitsB row r.cols=true then 0 else 87
 | _,_=>86
theorem fitD_none {d:List Rln} {x:List UInt8} {row:List Vl} (h:plI d x = -1):fitD d x row=86:=by
 unfold fitD
 rw[h]
 have:decide (0<=(-1:Int))=false:=by decide
 rw[this]
 split
 ·rename_i h1 h2
  cases h2
 ·rfl
theorem fitD_some {d:List Rln} {x:List UInt8} {row:List Vl} {k:Nat} {r:Rln} (h:plI d x=k) (hr:d[k]? = some r):fitD d x row=if fitsB row r.cols=true then 0 else 87:=by
 unfold fitD
 rw[h]
 have:decide (0<=(k:Int))=true:=by simp
 rw[this,Int.toNat_natCast,hr]
theorem plI_range (d:List Rln) (x:List UInt8):plI d x = -1∨∃ (k:Nat) (r:Rln),plI d x=k/\d[k]? = some r/\r.name=x:=by
 unfold plI
 by_cases h:x∈d.map (·.name)
 ·right
  have hl:=List.idxOf_lt_length_of_mem h
  have hg:=List.getElem_idxOf hl
  have hl2:=hl
  rw[List.length_map] at hl2
  refine⟨(d.map (·.name)).idxOf x,d[(d.map (·.name)).idxOf x]'hl2,?_,List.getElem?_eq_getElem hl2,?_⟩
  ·unfold idxI
   rw[if_pos h]
  ·rw[List.getElem_map] at hg
   exact hg
 ·exact .inl (idxI_miss h)
def cbG (rels:List Rln):List Chg->Nat->Int × Int
 | [],_=>(0,0)
 | c::l,i=>if fitD rels c.rel c.row=0 then cbG rels l (i+1) else ((i:Int),fitD rels c.rel c.row)
def chkBt (b:List Chg) (rels:List Rln):Int × Int:=if 256<b.length then (0,100) else cbG rels b 0
theorem cbG_step {rels:List Rln} {b:List Chg} {k:Nat} {c:Chg} (h:b[k]? = some c) (h0:fitD rels c.rel c.row=0):cbG rels (b.drop k) k=cbG rels (b.drop (k+1)) (k+1):=by
 have hk:=(List.getElem?_eq_some_iff.1 h).1
 have e:=(List.getElem?_eq_some_iff.1 h).2
 rw[List.drop_eq_getElem_cons hk,e,cbG,if_pos h0]
theorem cbG_hit {rels:List Rln} {b:List Chg} {k:Nat} {c:Chg} (h:b[k]? = some c) (h0:fitD rels c.rel c.row≠0):cbG rels (b.drop k) k=((k:Int),fitD rels c.rel c.row):=by
 have hk:=(List.getElem?_eq_some_iff.1 h).1
 have e:=(List.getElem?_eq_some_iff.1 h).2
 rw[List.drop_eq_getElem_cons hk,e,cbG,if_neg h0]
end Go.Proofs.YtgopfpjinohncaaGreatDoor
namespace Go.Proofs.YtgopfpjinohncaaGreatDoor
set_option linter.unusedVariables false
def atP {α:Type} (l:List α) (f:α->Bool) (k:Nat):Bool:=match l[k]? with
 | some s=>f s
 | none=>false
theorem atP_some {α:Type} {l:List α} {f:α->Bool} {k:Nat} {x:α} (h:l[k]? = some x):atP l f k=f x:=by
 unfold atP
 rw[h]
theorem range_any {α:Type} (l:List α) (f:α->Bool) {n:Nat} (hn:n=l.length):(List.range n).any (atP l f)=l.any f:=by
 subst hn
 rw[Bool.eq_iff_iff]
 simp only[List.any_eq_true,List.mem_range]
 constructor
 ·rintro ⟨k,hk,hp⟩
  rw[atP_some (List.getElem?_eq_getElem hk)] at hp
  exact⟨_,List.getElem_mem hk,hp⟩
 ·rintro ⟨x,hx,hp⟩
  obtain⟨k,hk,rfl⟩:=List.getElem_of_mem hx
  exact⟨k,hk,by rw[atP_some (List.getElem?_eq_getElem hk)];exact hp⟩
theorem take_any_succ {α:Type} (p:α->Bool) {l:List α} {k:Nat} {x:α} (h:l[k]? = some x):(l.take (k+1)).any p=((l.take k).any p || p x):=by
 rw[List.take_add_one,h]
 simp
end Go.Proofs.YtgopfpjinohncaaGreatDoor
namespace Go.Proofs.YtgopfpjinohncaaGreatDoor
open Go.RowKit
set_option linter.unusedVariables false
set_option maxHeartbeats 4000000 in
set_option maxRecDepth 100000 in
theorem indexN_Val (g:Nat) (lb:Array Value) (eg:∀ args w,(callFunc g args).run Tryz.prog w=.ok (.enter g args) w) (p:Nat->Bool) (w:World) (v:Value) (xs:List (List Value)) (h:RowAt w v 3 xs) (hl:∀ x∈xs,x.length=3)
 (hf:∀ (W:World) (k:Nat) (x:List Value),Below w.heap.size w W->xs[k]? = some x->Calls Tryz.prog g (#[.agg x.toArray]++lb) W fun e W'=>e=.returned (.bool (p k))/\Below W.heap.size W W') :
 Calls Tryz.prog 210 #[v,.func (.func g) #[] lb] w fun e w'=>(∃ q:Int,e=.returned (.int .i64 q)/\decide (0<=q)=(List.range xs.length).any p)/\Below w.heap.size w w':=by
 obtain⟨ad,cap,rfl,hnc,hcm⟩:=h.form
 have hln:=h.len
 have HR:=Lib.hid h
 have HL:=Lib.hid hl
 have HF:=Lib.hid hf
 unfold maxLen at hcm
 generalize hn:xs.length=n at *
 have HN:=Lib.hid hn
 clear h hl hf hn
 go_enter Tryz.func210,Tryz.ntmps210
 go_wp2_with fail
 go_loopw [5,8] (fun _ i wr=>∃ k:Nat,k<=n/\i=.int .i64 k/\Hid (Below w.heap.size w wr)/\Hid (∀ j,j<k->p j=false)) (fun _ i _=>n - (intOf i).toNat)
 case atStart=>exact⟨0,Nat.zero_le _,rfl,Lib.hid (Below.refl _ _),Lib.hid (fun j hj=>by omega)⟩
 case round =>
  obtain⟨k,hk,rfl,HB,HP⟩:=hrel
  by_cases hlt:k<n
  ·obtain⟨x,hx⟩:∃ x,xs[k]? = some x:=⟨xs[k]'(by rw[HN.out];exact hlt),List.getElem?_eq_getElem (by rw[HN.out];exact hlt)⟩
   have hm:x∈xs:=List.mem_of_getElem? hx
   obtain⟨b,off,cap',hv,_,_,hbl,hce⟩:=(HR.out.keep HB.out).get hx
   rw[HN.out] at hv
   simp only[Value.slice.injEq,true_and] at hv
   obtain⟨rfl,rfl⟩:=hv
   obtain⟨e0,e1,e2,rfl⟩:=len3 (HL.out x hm)
   have q0:=hce 0 e0 rfl
   have q1:=hce 1 e1 rfl
   have q2:=hce 2 e2 rfl
   simp only[Nat.add_zero] at q0 q1 q2
   have hcall:=HF.out wr k _ HB.out hx
   clear hce hm hx
   cases hq:p k with
   | true =>
     rw[hq] at hcall
     have HC:=Lib.hid hcall
     have HQ:=Lib.hid hq
     clear hcall hq
     go_wp2_with fail
     refine HC.out.mono ?_
     rintro e w' ⟨rfl,hb'⟩
     have HB':=Lib.hid hb'
     clear hb'
     go_wp2_with fail
     go_ret
     refine⟨⟨k,rfl,?_⟩,HB.out.trans (HB'.out.mono HB.out.size)⟩
     rw[decide_eq_true (Int.natCast_nonneg k)]
     exact (List.any_eq_true.2 ⟨k,List.mem_range.2 hlt,HQ.out⟩).symm
   | false =>
     rw[hq] at hcall
     have HC:=Lib.hid hcall
     have HQ:=Lib.hid hq
     clear hcall hq
     go_wp2_with fail
     refine HC.out.mono ?_
     rintro e w' ⟨rfl,hb'⟩
     have HB':=Lib.hid hb'
     clear hb'
     go_wp2_with fail
     go_roundw
     case rel =>
      refine⟨k+1,by omega,by go_num,Lib.hid (HB.out.trans (HB'.out.mono HB.out.size)),Lib.hid (fun j hj=>?_)⟩
      rcases Nat.lt_or_ge j k with h1 | h1
      ·exact HP.out j h1
      ·obtain rfl:j=k:=by omega
       exact HQ.out
     case measure=>simp [intOf];omega
  ·obtain rfl:k=n:=by omega
   go_wp2_with fail
   go_ret
   refine⟨⟨-1,rfl,?_⟩,HB.out⟩
   rw[show decide ((0:Int) <= -1)=false from by decide]
   refine (List.any_eq_false.2 fun j hj=>?_).symm
   rw[HP.out j (List.mem_range.1 hj)]
   decide
set_option maxHeartbeats 4000000 in
set_option maxRecDepth 100000 in
theorem containsN_Val (g:Nat) (lb:Array Value) (eg:∀ args w,(callFunc g args).run Tryz.prog w=.ok (.enter g args) w) (p:Nat->Bool) (w:World) (v:Value) (xs:List (List Value)) (h:RowAt w v 3 xs) (hl:∀ x∈xs,x.length=3)
 (hf:∀ (W:World) (k:Nat) (x:List Value),Below w.heap.size w W->xs[k]? = some x->Calls Tryz.prog g (#[.agg x.toArray]++lb) W fun e W'=>e=.returned (.bool (p k))/\Below W.heap.size W W') :
 Calls Tryz.prog 155 #[v,.func (.func g) #[] lb] w fun e w'=>e=.returned (.bool ((List.range xs.length).any p))/\Below w.heap.size w w':=by
 have HI:=Lib.hid (indexN_Val g lb eg p w v xs h hl hf)
 clear h hl hf
 generalize (List.range xs.length).any p=R at *
 go_enter Tryz.func155,Tryz.ntmps155
 go_wp2_with fail
 refine HI.out.mono ?_
 rintro e w' ⟨⟨q,rfl,hq⟩,hb'⟩
 have HB':=Lib.hid hb'
 clear hb'
 go_wp2_with fail
 go_ret
 exact⟨by first | rfl | simp,HB'.out⟩
set_option maxHeartbeats 1000000 in
set_option maxRecDepth 100000 in
theorem rowClo_any (w:World) (u:Vl) :
 Calls Tryz.prog 156 #[.agg u.cells.toArray] w fun e w'=>e=.returned (.bool (badV u))/\Below w.heap.size w w':=by
 have hnot:∀ (x:Bool) (w:World),(Op.unary .not (.bool x)).run Tryz.prog w=.ok (.bool (!x)) w:=fun _ _=>rfl
 obtain⟨k,n,s⟩:=u
 unfold badV Vl.cells
 have hv:=fun W=>valid_any k n ⟨s.toArray⟩ W
 have hss:(⟨s.toArray⟩:ByteArray).data.toList=s:=by simp
 rw[hss] at hv
 have hb0:Below w.heap.size w (w.alloc (.cells #[.int .i64 k,.int .i64 n,.string ⟨s.toArray⟩] 111)):=balloc (Below.refl _ _) _
 have hb1:=fun c:Array Value=>balloc hb0 (.cells c 111)
 show Calls _ _ _ _ fun e w'=>e=.returned (.bool (!validB k n s))/\_
 generalize validB k n s=vb at *
 have HV:=Lib.hid hv
 have HB1:=Lib.hid hb1
 clear hv hss hb0 hb1
 go_enter Tryz.func156,Tryz.ntmps156
 go_wp2_with fail
 refine (HV.out _).mono ?_
 rintro e w1 ⟨rfl,rfl⟩
 go_wp2_with fail
 go_ret
 exact⟨rfl,HB1.out _⟩
set_option maxHeartbeats 2000000 in
set_option maxRecDepth 100000 in
theorem rowValid_any (w:World) (rv:Value) (l:List Vl) (h:RowAt w rv 3 (l.map Vl.cells)) :
 Calls Tryz.prog 74 #[rv] w fun e w'=>e=.returned (.bool (rowB l))/\Below w.heap.size w w':=by
 have hnot:∀ (x:Bool) (w:World),(Op.unary .not (.bool x)).run Tryz.prog w=.ok (.bool (!x)) w:=fun _ _=>rfl
 have hcf:=containsN_Val 156 #[] (enters_of Tryz.func156 (by kernel_rfl) rfl) (atP l badV) w rv (l.map Vl.cells) h (vl_len _) (fun W k x _ hx=>by
  rw[List.getElem?_map] at hx
  cases hs:l[k]? with
  | none=>rw[hs] at hx;simp at hx
  | some s =>
    rw[hs] at hx
    simp only[Option.map_some,Option.some.injEq] at hx
    subst hx
    rw[atP_some hs]
    exact rowClo_any W s)
 rw[range_any l _ (List.length_map _)] at hcf
 have hl:=h.len
 obtain⟨ad,cap,rfl,hnc,hcm⟩:=h.form
 unfold rowB
 rw[List.length_map] at *
 have HC:=Lib.hid hcf
 clear hcf h
 generalize l.any badV=bv at *
 generalize l.length=n at *
 by_cases h30:n<=30
 ·have hd:(n:Int)<=30:=by omega
  rw[decide_eq_true h30]
  go_enter Tryz.func74,Tryz.ntmps74
  go_wp2_with fail
  refine HC.out.mono ?_
  rintro e w2 ⟨rfl,hb⟩
  have HB:=Lib.hid hb
  clear hb
  go_wp2_with fail
  go_ret
  exact⟨by simp,HB.out⟩
 ·have hd:¬ ((n:Int)<=30):=by omega
  rw[decide_eq_false h30]
  clear h30
  go_enter Tryz.func74,Tryz.ntmps74
  go_wp2_with fail
  go_ret
  exact⟨by simp,Below.refl _ _⟩
set_option maxHeartbeats 4000000 in
set_option maxRecDepth 100000 in
theorem refRowValid_any (w:World) (rv:Value) (l:List Vl) (h:RowAt w rv 3 (l.map Vl.cells)) :
 Calls Tryz.prog 76 #[rv] w fun e w'=>e=.returned (.bool (rowB l))/\Below w.heap.size w w':=by
 have hnot:∀ (x:Bool) (w:World),(Op.unary .not (.bool x)).run Tryz.prog w=.ok (.bool (!x)) w:=fun _ _=>rfl
 have HVD:=Lib.hid (fun W (u:Vl)=>refValid_any u.k u.n ⟨u.t.toArray⟩ W)
 have hl:=h.len
 obtain⟨ad,cap,rfl,hnc,hcm⟩:=h.form
 unfold maxLen at hcm
 rw[List.length_map] at *
 have HR:=Lib.hid h
 have hres:rowB l=(decide (l.length<=30) && !l.any badV):=rfl
 rw[hres]
 clear h hres
 generalize hN:l.length=n at *
 have HN:=Lib.hid hN
 clear hN
 by_cases h30:n<=30
 ·have hd:¬ ((30:Int)<(n:Int)):=by omega
  have hd2:(n:Int)<=30:=by omega
  rw[decide_eq_true h30]
  go_enter Tryz.func76,Tryz.ntmps76
  go_wp2_with fail
  go_loopw [3] (fun i wr=>∃ k:Nat,k<=n/\i=.int .i64 k/\Hid ((l.take k).any badV=false)/\Hid (Below w.heap.size w wr)) (fun i _=>n - (intOf i).toNat)
  case atStart=>exact⟨0,Nat.zero_le _,rfl,Lib.hid rfl,Lib.hid (Below.refl _ _)⟩
  case round =>
   obtain⟨k,hk,rfl,HP,BW⟩:=hrel
   by_cases hlt:k<n
   ·obtain⟨u,hu⟩:∃ u,l[k]? = some u:=⟨l[k]'(by rw[HN.out];exact hlt),List.getElem?_eq_getElem (by rw[HN.out];exact hlt)⟩
    obtain⟨b,off,cap',hv,_,_,hbl,hce⟩:=(HR.out.keep BW.out).get (i:=k) (x:=u.cells) (by simp [hu])
    simp only[List.length_map,HN.out,Value.slice.injEq,true_and] at hv
    obtain⟨rfl,rfl⟩:=hv
    have q0:=hce 0 _ rfl
    have q1:=hce 1 _ rfl
    have q2:=hce 2 _ rfl
    simp only[Nat.add_zero] at q0
    have hdk:decide ((k:Int)<0)=false:=by simp
    have hdn:decide ((n:Int)<=(k:Int))=false:=by simp;omega
    have hvd:=fun W=>HVD.out W u
    obtain⟨vb,hvb⟩:∃ vb,validB u.k u.n u.t=vb:=⟨_,rfl⟩
    rw[show validB u.k u.n (⟨u.t.toArray⟩:ByteArray).data.toList=vb from hvb] at hvd
    have HVT:=Lib.hid hvd
    have hst:=take_any_succ badV hu
    rw[HP.out,show badV u = !vb by unfold badV;rw[hvb]] at hst
    have HST:=Lib.hid hst
    have HMU:=Lib.hid (List.mem_of_getElem? hu)
    have HVB:=Lib.hid hvb
    clear hce hvd hvb hst hu
    cases vb with
    | true =>
      go_wp2_with fail
      refine (HVT.out _).mono ?_
      rintro e w2 ⟨rfl,hb⟩
      have HB:=Lib.hid (BW.out.trans (hb.mono BW.out.size))
      clear hb
      go_wp2_with fail
      go_roundw
      case rel=>exact⟨k+1,by omega,by go_num,Lib.hid (by rw[HST.out];rfl),HB⟩
      case measure=>simp [intOf];omega
    | false =>
      have hany:l.any badV=true:=List.any_eq_true.2 ⟨u,HMU.out,by unfold badV;rw[HVB.out];rfl⟩
      have HANY:=Lib.hid hany
      clear hany
      go_wp2_with fail
      refine (HVT.out _).mono ?_
      rintro e w2 ⟨rfl,hb⟩
      have HB:=Lib.hid (BW.out.trans (hb.mono BW.out.size))
      clear hb
      go_wp2_with fail
      go_ret
      exact⟨by rw[HANY.out];rfl,HB.out⟩
   ·obtain rfl:k=n:=by omega
    have hp:=HP.out
    rw[List.take_of_length_le (by rw[HN.out];exact Nat.le_refl _)] at hp
    have HPP:=Lib.hid hp
    clear hp
    go_wp2_with fail
    go_ret
    exact⟨by rw[HPP.out];rfl,BW.out⟩
 ·have hd:(30:Int)<(n:Int):=by omega
  have hd2:¬ ((n:Int)<=30):=by omega
  rw[decide_eq_false h30]
  clear h30
  go_enter Tryz.func76,Tryz.ntmps76
  go_wp2_with fail
  go_ret
  exact⟨by simp,Below.refl _ _⟩
theorem Tryz.infoTx9:(Tryz.prog.info? 9).map (fun i=>(i.zero,i.size,i.bytes))=some (some (.string ⟨#[]⟩),1,16):=by kernel_rfl
def rowG {α:Type} (f:α->List UInt8) (cs:List α) (k:Nat):List (List UInt8):=(cs.take k).map f++(cs.drop k).map fun _=>[]
theorem rowG_len {α:Type} (f:α->List UInt8) (cs:List α) (k:Nat):(rowG f cs k).length=cs.length:=by
 unfold rowG
 simp
 omega
theorem rowG_set {α:Type} (f:α->List UInt8) {cs:List α} {k:Nat} {c:α} (h:cs[k]? = some c):(rowG f cs k).set k (f c)=rowG f cs (k+1):=by
 have hk:=(List.getElem?_eq_some_iff.1 h).1
 have hl:((cs.take k).map f).length=k:=by rw[List.length_map,List.length_take];omega
 have e1:(cs.take (k+1)).map f=(cs.take k).map f++[f c]:=by
  rw[List.take_add_one,h]
  simp
 have e2:cs.drop k=cs[k]::cs.drop (k+1):=List.drop_eq_getElem_cons hk
 unfold rowG
 rw[e1,e2,List.map_cons,List.set_append_right _ _ (by omega),hl,Nat.sub_self,List.set_cons_zero,List.append_assoc]
 rfl
theorem emptiesG {α:Type}:∀ l:List α,List.replicate l.length [Value.string ⟨#[]⟩]=(l.map fun _=>([]:List UInt8)).map strC
 | []=>rfl
 | _::l=>by
   simp only[List.length_cons,List.replicate_succ,List.map_cons]
   rw[emptiesG l]
   rfl
theorem rowG_zero {α:Type} (f:α->List UInt8) (cs:List α):(madeCells #[.string ⟨#[]⟩] cs.length).toList=((rowG f cs 0).map strC).flatten:=by
 have h:=made_rows [.string ⟨#[]⟩] cs.length (by simp)
 rw[emptiesG cs,show cs.length * ([Value.string ⟨#[]⟩]:List Value).length=cs.length from Nat.mul_one _] at h
 unfold rowG
 simp only[List.take_zero,List.map_nil,List.drop_zero,List.nil_append]
 exact h
theorem rowG_all {α:Type} (f:α->List UInt8) (cs:List α):rowG f cs cs.length=cs.map f:=by
 unfold rowG
 simp
theorem strG1 (l:List (List UInt8)):∀ x∈l.map strC,x.length=1:=by
 intro x hx
 simp at hx
 obtain⟨t,_,rfl⟩:=hx
 rfl
theorem own_setTextG {w:World} {g k n cap base:Nat} {l:List (List UInt8)} {s:List UInt8} (hown:w.ownsRow base 9 1 (.slice (some ⟨g,0,none⟩) n cap) n (l.map strC).flatten) (hn:l.length=n) (hk:k<n) :
 (w.setCell ⟨g,k,none⟩ (.string ⟨s.toArray⟩)).ownsRow base 9 1 (.slice (some ⟨g,0,none⟩) n cap) n ((l.set k s).map strC).flatten/\Mod (fun j=>j=g) w (w.setCell ⟨g,k,none⟩ (.string ⟨s.toArray⟩)):=by
 have h:=own_setCells (cells:=[.string ⟨s.toArray⟩]) hown (strG1 l) (by rw[List.length_map,hn]) hk (by intro v hv;simp at hv;subst hv;rfl)
 have e:w.setCells g (k * ([Value.string ⟨s.toArray⟩]:List Value).length) [.string ⟨s.toArray⟩]=w.setCell ⟨g,k,none⟩ (.string ⟨s.toArray⟩):=by
  simp [World.setCells]
 rw[e] at h
 rw[List.map_set]
 exact⟨h.1,h.2.1⟩
theorem Mod.ownG {b g:Nat} {w0 w w':World} (hz:w0.heap.size=g) (h:Below g w0 w) (hm:Mod (fun k=>k=b) w w') (hb:g<=b):Below g w0 w':=by
 subst hz
 exact Mod.own h hm hb
theorem Below.allocG {g:Nat} {w0 w:World} (hz:w0.heap.size=g) (h:Below g w0 w) (o:Obj):Below g w0 (w.alloc o):=by
 subst hz
 exact balloc h o
theorem ownG_strs {base:Nat} {w:World} {v:Value} {n:Nat} {l:List (List UInt8)} (h:w.ownsRow base 9 1 v n (l.map strC).flatten) (hn:l.length=n) (hs:n<=8796093022208):StrsAt w v l :=
 RowAt.ofOwn h (by rw[List.length_map,hn]) (strG1 l) (by rw[List.length_map,hn];exact hs)
theorem textsG (l:List (List UInt8)):(l.map fun s=>(⟨s.toArray⟩:ByteArray)).map (·.data.toList)=l:=by
 rw[List.map_map]
 conv=>rhs;rw[<-List.map_id l]
 apply List.map_congr_left
 intro a _
 simp
theorem join_any (w:World) (v:Value) (l:List (List UInt8)) (sep:ByteArray) (h:StrsAt w v l) (hj:(Lib.join l sep.data.toList).length<=140737488355328) :
 Calls Tryz.prog 149 #[v,.string sep] w fun e w'=>e=.returned (.string ⟨(Lib.join l sep.data.toList).toArray⟩)/\Below w.heap.size w w':=by
 have hll:=h.len
 by_cases h0:l=[]
 ·subst h0
  obtain⟨ad,cap,rfl,_,_⟩:=h.form
  refine (Tryz.strings_Join_none ad cap sep w).mono ?_
  rintro e w' ⟨rfl,rfl⟩
  exact⟨by rw[Lib.join_nil],Below.refl _ _⟩
 ·have hl:0<l.length:=List.length_pos_iff.2 h0
  obtain⟨b,off,cap,rfl,hc,hm,hb,_⟩:=h.get (i:=0) (List.getElem?_eq_getElem hl)
  have hj2:=Tryz.strings_Join b off cap (l.map fun s=>(⟨s.toArray⟩:ByteArray)) sep w (fun j x hx=>by
   rw[List.getElem?_map] at hx
   cases hs:l[j]? with
   | none=>rw[hs] at hx;simp at hx
   | some s =>
     rw[hs] at hx
     simp only[Option.map_some,Option.some.injEq] at hx
     subst hx
     obtain⟨b',off',cap',hv,_,_,_,hcell⟩:=h.get hs
     simp only[Value.slice.injEq,Option.some.injEq,Addr.mk.injEq,and_true,true_and] at hv
     obtain⟨⟨rfl,rfl⟩,rfl⟩:=hv
     exact hcell) hb (by rw[List.length_map];omega) (by rw[List.length_map];exact hc) (by rw[textsG];exact hj)
  rw[textsG,List.length_map] at hj2
  exact hj2
theorem ba_appR {S:ByteArray} {t l:List UInt8} (h:S.data.toList=l):S++⟨t.toArray⟩=⟨(l++t).toArray⟩:=by
 subst h
 apply ByteArray.ext
 simp
set_option maxHeartbeats 8000000 in
set_option maxRecDepth 100000 in
theorem rowShow_bad (w:World) (rv:Value) (l:List Vl) (h:RowAt w rv 3 (l.map Vl.cells)) (hk:rowB l=false) :
 Calls Tryz.prog 73 #[rv] w fun e w'=>e=.returned (.string ⟨#[]⟩)/\Below w.heap.size w w':=by
 have hnot:∀ (x:Bool) (w:World),(Op.unary .not (.bool x)).run Tryz.prog w=.ok (.bool (!x)) w:=fun _ _=>rfl
 have hv:=rowValid_any w rv l h
 rw[hk] at hv
 have HV:=Lib.hid hv
 obtain⟨ad,cap,rfl,_,_⟩:=h.form
 clear hv h hk
 generalize (l.map Vl.cells).length=n at *
 go_enter Tryz.func73,Tryz.ntmps73
 go_wp2_with fail
 refine HV.out.mono ?_
 rintro e w2 ⟨rfl,hb2⟩
 have HB2:=Lib.hid hb2
 clear hb2
 go_wp2_with fail
 go_ret
 exact⟨rfl,HB2.out⟩
set_option maxHeartbeats 8000000 in
set_option maxRecDepth 100000 in
theorem rowShow_good (w:World) (rv:Value) (l:List Vl) (h:RowAt w rv 3 (l.map Vl.cells)) (hk:rowB l=true) (hr:∀ u∈l,RangeV u) (hg:Glob w) :
 Calls Tryz.prog 73 #[rv] w fun e w'=>e=.returned (.string ⟨(rowT0 l).toArray⟩)/\Below w.heap.size w w':=by
 have hnot:∀ (x:Bool) (w:World),(Op.unary .not (.bool x)).run Tryz.prog w=.ok (.bool (!x)) w:=fun _ _=>rfl
 obtain⟨i0,hi0,hz0,hz1,hz2⟩:=info_parts Tryz.infoTx9
 have hv:=rowValid_any w rv l h
 rw[hk] at hv
 obtain⟨hjl,hsl⟩:=rowT_size hk hr
 obtain⟨h30,hval⟩:=rowB_all hk
 have hsh:=fun W (hW:Glob W) (u:Vl) (hu:u∈l)=>show_any u.k u.n ⟨u.t.toArray⟩ W (hr u hu).1 (hr u hu).2 hW
 have hr0:=rowG_zero showV l
 have HRL0:=Lib.hid (rowG_len showV l)
 have HRS:=Lib.hid (fun k a=>rowG_set showV (cs:=l) (k:=k) (c:=a))
 have HRA:=Lib.hid (rowG_all showV l)
 have hjn:=fun W (v:Value) (hs:StrsAt W v (l.map showV))=>join_any W v (l.map showV) ⟨#[44,32]⟩ hs (by
  show (Lib.join (l.map showV) [44,32]).length<=_
  omega)
 have hres:rowT0 l=[40]++Lib.join (l.map showV) [44,32]++[41]:=by simp [rowT0]
 rw[hres]
 obtain⟨ad,cap,rfl,hnc,hcm⟩:=h.form
 unfold maxLen at hcm
 rw[List.length_map] at *
 have HV:=Lib.hid hv
 have HR:=Lib.hid h
 have HSH:=Lib.hid hsh
 have HG:=Lib.hid hg
 have HJN:=Lib.hid hjn
 have HJL:=Lib.hid hjl
 clear hv h hsh hg hjn hjl hk hr hsl hval hres
 generalize hN:l.length=n at *
 have HN:=Lib.hid hN
 have HR0:=Lib.hid hr0
 clear hN hr0
 go_enter Tryz.func73,Tryz.ntmps73
 go_wp2_with fail
 refine HV.out.mono ?_
 rintro e w2 ⟨rfl,hb2⟩
 have HB2:=Lib.hid hb2
 clear hb2 HV
 go_wp2_with (at_make;refine wpList_make_full _ rfl _ _ 28 rfl w.heap.size 9 i0 (.string ⟨#[]⟩) 1 Tryz.underlying28 hi0 hz0 hz1 _ _ _ _ n rfl rfl rfl rfl ?b2 ?b3 ?b4 ?_)
 case b2=>rw[hz2];omega
 case b3=>unfold maxLen;omega
 case b4=>exact HB2.out.size
 intro w5 hown5 hgrow5
 rw[HR0.out] at hown5
 have HO5:=Lib.hid hown5
 have hb5:Below w2.heap.size w2 w5:=Below.grown (Below.refl _ _) hgrow5 (Nat.le_refl _) (fun q hq=>by cases hq)
 have HB5:=Lib.hid hb5
 have hw2:=HB2.out.size
 generalize hgz:w2.heap.size=g at *
 have HGZ:=Lib.hid hgz
 clear hown5 hgrow5 hgz hb5
 go_wp2_with fail
 go_loopw [14] (fun i wr=>∃ k:Nat,k<=n/\i=.int .i64 k/\Hid (wr.ownsRow w.heap.size 9 1 (.slice (some ⟨g,0,none⟩) n n) n ((rowG showV l k).map strC).flatten)/\Hid (Below g w2 wr)) (fun i _=>n - (intOf i).toNat)
 case atStart=>exact⟨0,Nat.zero_le _,rfl,HO5,HB5⟩
 case round =>
  obtain⟨k,hk,rfl,OW,BG⟩:=hrel
  obtain⟨wo,rfl⟩:∃ wo:World,wo=wr:=⟨_,rfl⟩
  have hbw:Below w.heap.size w wo:=HB2.out.trans (BG.out.mono hw2)
  have BW:=Lib.hid hbw
  by_cases hkn:k<n
  ·obtain⟨u,hu⟩:∃ u,l[k]? = some u:=⟨l[k]'(by rw[HN.out];exact hkn),List.getElem?_eq_getElem (by rw[HN.out];exact hkn)⟩
   obtain⟨b,off,cap',hv,_,_,hbl,hce⟩:=(HR.out.keep BW.out).get (i:=k) (x:=u.cells) (by simp [hu])
   simp only[List.length_map,HN.out,Value.slice.injEq,true_and] at hv
   obtain⟨rfl,rfl⟩:=hv
   have q0:=hce 0 _ rfl
   have q1:=hce 1 _ rfl
   have q2:=hce 2 _ rfl
   simp only[Nat.add_zero] at q0
   have HSET:=Lib.hid (HRS.out k u hu)
   have hsv:=fun W (hW:Glob W)=>HSH.out W hW u (List.mem_of_getElem? hu)
   rw[show showR u.k u.n (⟨u.t.toArray⟩:ByteArray).data.toList=showV u by simp [showV]] at hsv
   have hdk:decide ((k:Int)<0)=false:=by simp
   have hdn:decide ((n:Int)<=(k:Int))=false:=by simp;omega
   have hgg:g<wo.heap.size:=(OW.out.lt g rfl).2
   have hw:Below g w2 (wo.alloc (.cells u.cells.toArray 111)):=Below.allocG HGZ.out BG.out _
   have hgl:=HG.out.below (HB2.out.trans (hw.mono hw2))
   have ho:=(MT.ofBelow (B:=0) (Ts:=[]) (balloc (Below.refl wo.heap.size wo) (.cells u.cells.toArray 111))).ownsRow OW.out (by simp)
   have HSV:=Lib.hid (hsv _ hgl)
   have HW:=Lib.hid hw
   have HO:=Lib.hid ho
   clear hu hce hsv hw hgl ho
   generalize showV u=word at *
   unfold Vl.cells at HSV HW HO
   go_wp2_with fail
   refine HSV.out.mono ?_
   rintro e w7 ⟨rfl,hb7⟩
   have o7:=(MT.ofBelow (B:=0) (Ts:=[]) hb7).ownsRow HO.out (by simp)
   obtain⟨⟨y7,hy7⟩,hyz7,hgl7⟩:=own_cell o7 hkn (j:=0) (by decide)
   simp only[Nat.mul_one,Nat.add_zero] at hy7 hyz7
   have O7:=Lib.hid o7
   have B7:=Lib.hid (HW.out.trans (hb7.mono (by simp;omega)))
   clear o7 hb7
   go_wp2_with fail
   go_roundw
   case rel =>
    have h8:=own_setTextG (s:=word) O7.out (HRL0.out k) hkn
    rw[HSET.out] at h8
    exact⟨k+1,by omega,by go_num,Lib.hid h8.1,Lib.hid (Mod.ownG HGZ.out B7.out h8.2 (Nat.le_refl _))⟩
   case measure=>simp [intOf];omega
  ·obtain rfl:k=n:=by omega
   have hst:=ownG_strs OW.out (HRL0.out k) (by omega)
   rw[HRA.out] at hst
   have hj:=HJN.out wo _ hst
   have hjl:(Lib.join (l.map showV) [44,32]).length<=7800:=HJL.out
   have hcc:ByteArray.mk #[40]++ByteArray.mk (Lib.join (l.map showV) [44,32]).toArray++ByteArray.mk #[41]=⟨([40]++Lib.join (l.map showV) [44,32]++[41]).toArray⟩:=by
    apply ByteArray.ext
    simp
   have hj2:Calls Tryz.prog 149 #[.slice (some ⟨g,0,none⟩) k k,.string ⟨#[44,32]⟩] wo fun e w'=>e=.returned (.string ⟨(Lib.join (l.map showV) [44,32]).toArray⟩)/\Below wo.heap.size wo w':=hj
   obtain⟨J,hJ⟩:∃ J,J=Lib.join (l.map showV) [44,32]:=⟨_,rfl⟩
   rw[<-hJ] at hj2 hjl hcc
   have HJJ:=Lib.hid hJ
   have HJ:=Lib.hid hj2
   have HCC:=Lib.hid hcc
   have hl1:¬ 9223372036854775807<1+J.length:=by omega
   have hl2:¬ 9223372036854775807<1+J.length+1:=by omega
   clear hst hj hj2 hcc hJ
   go_wp2_with fail
   refine HJ.out.mono ?_
   rintro e w8 ⟨rfl,hb8⟩
   have HB8:=Lib.hid (BW.out.trans (hb8.mono BW.out.size))
   clear hb8
   go_wp2_with fail
   go_ret
   refine⟨?_,HB8.out⟩
   rw[<-HJJ.out]
   exact congrArg (fun x=>Ending.returned (Value.string x)) HCC.out
theorem rowShow_any (w:World) (rv:Value) (l:List Vl) (h:RowAt w rv 3 (l.map Vl.cells)) (hr:∀ u∈l,RangeV u) (hg:Glob w) :
 Calls Tryz.prog 73 #[rv] w fun e w'=>e=.returned (.string ⟨(showRow l).toArray⟩)/\Below w.heap.size w w':=by
 unfold showRow
 cases hk:rowB l with
 | true =>
   rw[if_pos rfl]
   exact rowShow_good w rv l h hk hr hg
 | false =>
   rw[if_neg (by decide)]
   exact rowShow_bad w rv l h hk
set_option maxHeartbeats 2000000 in
set_option maxRecDepth 100000 in
theorem refRowShow_bad (w:World) (rv:Value) (l:List Vl) (h:RowAt w rv 3 (l.map Vl.cells)) (hk:rowB l=false) :
 Calls Tryz.prog 26 #[rv] w fun e w'=>e=.returned (.string ⟨#[]⟩)/\Below w.heap.size w w':=by
 have hnot:∀ (x:Bool) (w:World),(Op.unary .not (.bool x)).run Tryz.prog w=.ok (.bool (!x)) w:=fun _ _=>rfl
 have hv:=refRowValid_any w rv l h
 rw[hk] at hv
 have HV:=Lib.hid hv
 obtain⟨ad,cap,rfl,_,_⟩:=h.form
 clear hv h hk
 generalize (l.map Vl.cells).length=n at *
 go_enter Tryz.func26,Tryz.ntmps26
 go_wp2_with fail
 refine HV.out.mono ?_
 rintro e w2 ⟨rfl,hb2⟩
 have HB2:=Lib.hid hb2
 clear hb2
 go_wp2_with fail
 go_ret
 exact⟨rfl,HB2.out⟩
theorem join_snocJ (l:List (List UInt8)) (x sep:List UInt8) (h:l≠[]):Lib.join (l++[x]) sep=Lib.join l sep++sep++x:=by
 cases l with
 | nil=>exact absurd rfl h
 | cons a r =>
   rw[List.cons_append,Lib.join_cons,Lib.join_cons]
   simp [Lib.joinTail]
theorem take_joinJ {α:Type} (f:α->List UInt8) {l:List α} {k:Nat} {x:α} (h:l[k]? = some x) (h0:k≠0):Lib.join ((l.take (k+1)).map f) [44,32]=Lib.join ((l.take k).map f) [44,32]++[44,32]++f x:=by
 have hk:=(List.getElem?_eq_some_iff.1 h).1
 have e:(l.take (k+1)).map f=(l.take k).map f++[f x]:=by
  rw[List.take_add_one,h]
  simp
 rw[e]
 refine join_snocJ _ _ _ fun e=>?_
 have:((l.take k).map f).length=k:=by rw[List.length_map,List.length_take];omega
 rw[e] at this
 simp at this
 exact h0 this.symm
theorem take_joinJ0 {α:Type} (f:α->List UInt8) {l:List α} {x:α} (h:l[0]? = some x):Lib.join ((l.take (0+1)).map f) [44,32]=f x:=by
 have e:(l.take (0+1)).map f=(l.take 0).map f++[f x]:=by
  rw[List.take_add_one,h]
  simp
 rw[e]
 simp [Lib.join_one]
set_option maxHeartbeats 8000000 in
set_option maxRecDepth 100000 in
theorem refRowShow_good (w:World) (rv:Value) (l:List Vl) (h:RowAt w rv 3 (l.map Vl.cells)) (hk:rowB l=true) (hr:∀ u∈l,RangeV u) :
 Calls Tryz.prog 26 #[rv] w fun e w'=>e=.returned (.string ⟨(rowT0 l).toArray⟩)/\Below w.heap.size w w':=by
 have hnot:∀ (x:Bool) (w:World),(Op.unary .not (.bool x)).run Tryz.prog w=.ok (.bool (!x)) w:=fun _ _=>rfl
 have hv:=refRowValid_any w rv l h
 rw[hk] at hv
 obtain⟨h30,hval⟩:=rowB_all hk
 have hwl:=showV_len hk hr
 have hsh:=fun W (u:Vl) (hu:u∈l)=>refShow_any u.k u.n ⟨u.t.toArray⟩ W (hr u hu).1 (hr u hu).2
 have hres:rowT0 l=[40]++Lib.join (l.map showV) [44,32]++[41]:=by simp [rowT0]
 rw[hres]
 obtain⟨ad,cap,rfl,hnc,hcm⟩:=h.form
 unfold maxLen at hcm
 rw[List.length_map] at *
 have HV:=Lib.hid hv
 have HR:=Lib.hid h
 have HSH:=Lib.hid hsh
 have HWL:=Lib.hid hwl
 clear hv h hsh hwl hk hr hval hres
 generalize hN:l.length=n at *
 have HN:=Lib.hid hN
 clear hN
 go_enter Tryz.func26,Tryz.ntmps26
 go_wp2_with fail
 refine HV.out.mono ?_
 rintro e w2 ⟨rfl,hb2⟩
 have HB2:=Lib.hid hb2
 clear hb2 HV
 go_wp2_with fail
 go_loopw [3,4] (fun s i wr=>∃ (k:Nat) (S:ByteArray),k<=n/\s=.string S/\i=.int .i64 k/\S.size<=1+260 * k/\Hid (S.data.toList=[40]++Lib.join ((l.take k).map showV) [44,32])/\Hid (Below w.heap.size w wr)) (fun _ i _=>n - (intOf i).toNat)
 case atStart=>exact⟨0,⟨#[40]⟩,Nat.zero_le _,rfl,rfl,by decide,Lib.hid (by simp [Lib.join_nil]),HB2⟩
 case round =>
  obtain⟨k,S,hk,rfl,rfl,hS,HS,HW⟩:=hrel
  by_cases hkn:k<n
  ·obtain⟨u,hu⟩:∃ u,l[k]? = some u:=⟨l[k]'(by rw[HN.out];exact hkn),List.getElem?_eq_getElem (by rw[HN.out];exact hkn)⟩
   obtain⟨b,off,cap',hv,_,_,hbl,hce⟩:=(HR.out.keep HW.out).get (i:=k) (x:=u.cells) (by simp [hu])
   simp only[List.length_map,HN.out,Value.slice.injEq,true_and] at hv
   obtain⟨rfl,rfl⟩:=hv
   have q0:=hce 0 _ rfl
   have q1:=hce 1 _ rfl
   have q2:=hce 2 _ rfl
   simp only[Nat.add_zero] at q0
   have hsv:=fun W=>HSH.out W u (List.mem_of_getElem? hu)
   rw[show showR u.k u.n (⟨u.t.toArray⟩:ByteArray).data.toList=showV u by simp [showV]] at hsv
   have hlw:=HWL.out u (List.mem_of_getElem? hu)
   have hdk:decide ((k:Int)<0)=false:=by simp
   have hdn:decide ((n:Int)<=(k:Int))=false:=by simp;omega
   have z2:(⟨#[44,32]⟩:ByteArray).size=2:=rfl
   by_cases h0:k=0
   ·subst h0
    have e0:=take_joinJ0 showV hu
    generalize showV u=word at *
    have HSV:=Lib.hid hsv
    have E0:=Lib.hid e0
    have zc:(⟨word.toArray⟩:ByteArray).size=word.length:=by simp [ByteArray.size]
    have b1:S.size+word.length<=9223372036854775807:=by omega
    simp only[Nat.zero_mul,Nat.add_zero] at q0 q1 q2
    clear e0 hsv hu hce
    go_wp2_with fail
    refine (HSV.out _).mono ?_
    rintro e w4 ⟨rfl,hb4⟩
    have HW4:=Lib.hid (HW.out.trans (hb4.mono HW.out.size))
    clear hb4
    go_wp2_with fail
    go_roundw
    case rel=>exact⟨0+1,_,by omega,rfl,by go_num,by simp only[ByteArray.size_append];omega,Lib.hid (by rw[E0.out];simp [HS.out,Lib.join_nil]),HW4⟩
    case measure=>simp [intOf];omega
   ·have e0:=take_joinJ showV hu h0
    generalize showV u=word at *
    have HSV:=Lib.hid hsv
    have E0:=Lib.hid e0
    have zc:(⟨word.toArray⟩:ByteArray).size=word.length:=by simp [ByteArray.size]
    have hk0:decide ((0:Int)<(k:Int))=true:=by simp;omega
    have hk1:0<k:=by omega
    have b0:S.size+2<=9223372036854775807:=by omega
    have b1:S.size+2+word.length<=9223372036854775807:=by omega
    clear e0 hsv hu hce
    go_wp2_with fail
    refine (HSV.out _).mono ?_
    rintro e w4 ⟨rfl,hb4⟩
    have HW4:=Lib.hid (HW.out.trans (hb4.mono HW.out.size))
    clear hb4
    go_wp2_with fail
    go_roundw
    case rel=>exact⟨k+1,_,by omega,rfl,by go_num,by simp only[ByteArray.size_append];omega,Lib.hid (by rw[E0.out];simp [HS.out]),HW4⟩
    case measure=>simp [intOf];omega
  ·obtain rfl:k=n:=by omega
   have hs:=HS.out
   rw[List.take_of_length_le (by rw[HN.out];exact Nat.le_refl _)] at hs
   have b1:S.size+1<=9223372036854775807:=by omega
   have hcc:S++⟨#[41]⟩=⟨([40]++Lib.join (l.map showV) [44,32]++[41]).toArray⟩:=by
    exact ba_appR hs
   have HCC:=Lib.hid hcc
   clear hs hcc
   go_wp2_with fail
   go_ret
   exact⟨(congrArg (fun x=>Ending.returned (Value.string x)) HCC.out).trans (by simp),HW.out⟩
theorem refRowShow_any (w:World) (rv:Value) (l:List Vl) (h:RowAt w rv 3 (l.map Vl.cells)) (hr:∀ u∈l,RangeV u) :
 Calls Tryz.prog 26 #[rv] w fun e w'=>e=.returned (.string ⟨(showRow l).toArray⟩)/\Below w.heap.size w w':=by
 unfold showRow
 cases hk:rowB l with
 | true =>
   rw[if_pos rfl]
   exact refRowShow_good w rv l h hk hr
 | false =>
   rw[if_neg (by decide)]
   exact refRowShow_bad w rv l h hk
end Go.Proofs.YtgopfpjinohncaaGreatDoor
