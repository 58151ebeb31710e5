/- Rows of cells that can be read. -/
import Derived.Test.YtgopfpjinohncaaGreatDoorSmF
set_option maxHeartbeats 16000000
set_option maxRecDepth 100000
set_option linter.unusedVariables false
namespace Go.Proofs.YtgopfpjinohncaaGreatDoor
open Go.Proofs.Tryz
open Go.RowKit
def aj (w:World) (v:Value) (sz:Nat) (xs:List (List Value)):Prop :=
 xs.length<=8796093022208/\∃ (ad:Option Addr) (cap:Nat),v=.slice ad xs.length cap/\xs.length<=cap/\cap<=maxLen /\
  (xs=[]∨∃ b off:Nat,ad=some ⟨b,off,none⟩/\b<w.heap.size/\∀ (i j:Nat) (x:List Value) (u:Value),xs[i]? = some x->x[j]? = some u->w.cell? ⟨b,off+i * sz+j,none⟩=some u)
section
variable {w w' : World} {v : Value} {sz : Nat} {xs : List (List Value)}
theorem aj.keep (h:aj w v sz xs) (hb:Below w.heap.size w w'):aj w' v sz xs:=by
 obtain⟨h1,ad,cap,rfl,h2,h3,h4⟩:=h
 refine⟨h1,ad,cap,rfl,h2,h3,?_⟩
 rcases h4 with h4 | ⟨b,off,rfl,h5,h6⟩
 ·exact .inl h4
 ·exact .inr ⟨b,off,rfl,Nat.lt_of_lt_of_le h5 hb.size,fun i j x u hx hu=>(hb.cell (p:=⟨b,off+i * sz+j,none⟩) h5).trans (h6 i j x u hx hu)⟩
theorem aj.get (h:aj w v sz xs) {i:Nat} {x:List Value} (hi:xs[i]? = some x):∃ b off cap:Nat,v=.slice (some ⟨b,off,none⟩) xs.length cap/\xs.length<=cap/\cap<=maxLen/\b<w.heap.size /\
 ∀ (j:Nat) (u:Value),x[j]? = some u->w.cell? ⟨b,off+i * sz+j,none⟩=some u:=by
 obtain⟨h1,ad,cap,rfl,h2,h3,h4⟩:=h
 rcases h4 with h4 | ⟨b,off,rfl,h5,h6⟩
 ·subst h4;simp at hi
 ·exact⟨b,off,cap,rfl,h2,h3,h5,fun j u hu=>h6 i j x u hi hu⟩
theorem aj.form (h:aj w v sz xs):∃ (ad:Option Addr) (cap:Nat),v=.slice ad xs.length cap/\xs.length<=cap/\cap<=maxLen:=by
 obtain⟨h1,ad,cap,rfl,h2,h3,h4⟩:=h
 exact⟨ad,cap,rfl,h2,h3⟩
theorem aj.len (h:aj w v sz xs):xs.length<=8796093022208:=h.1
theorem aj.take (h:aj w v sz xs) {n:Nat} (hn:n<=xs.length):∀ {ad:Option Addr} {cap:Nat},v=.slice ad xs.length cap->aj w (.slice ad n cap) sz (xs.take n):=by
 intro ad cap hv
 obtain⟨h1,ad',cap',hv',h2,h3,h4⟩:=h
 rw[hv] at hv'
 simp only[Value.slice.injEq,true_and] at hv'
 obtain⟨rfl,rfl⟩:=hv'
 have hl:(xs.take n).length=n:=by rw[List.length_take];omega
 refine⟨by omega,ad,cap,by rw[hl],by omega,h3,?_⟩
 rcases h4 with h4 | ⟨b,off,rfl,h5,h6⟩
 ·subst h4;exact .inl (by simp)
 ·refine .inr ⟨b,off,rfl,h5,fun i j x u hx hu=>h6 i j x u ?_ hu⟩
  rw[List.getElem?_take] at hx
  split at hx
  ·exact hx
  ·simp at hx
theorem bP:∀ {xs:List (List Value)},(∀ x∈xs,x.length=sz)->xs.flatten.length=xs.length * sz
 | [],_=>by simp
 | a::l,h=>by
   have h1:=bP (xs:=l) fun x hx=>h x (List.mem_cons_of_mem _ hx)
   have h2:=h a List.mem_cons_self
   simp only[List.flatten_cons,List.length_append,List.length_cons,h1,h2,Nat.succ_mul]
   omega
theorem ef:∀ {xs:List (List Value)} (_:∀ x∈xs,x.length=sz) {i j:Nat} {x:List Value} {u:Value},xs[i]? = some x->x[j]? = some u->xs.flatten[i * sz+j]? = some u
 | [],_,i,j,x,u,hx,_=>by simp at hx
 | a::l,h,0,j,x,u,hx,hu=>by
   simp at hx
   subst hx
   have hj:=(FE hu).1
   simp only[List.flatten_cons,Nat.zero_mul,Nat.zero_add]
   rw[List.getElem?_append_left hj]
   exact hu
 | a::l,h,i+1,j,x,u,hx,hu=>by
   have h2:=h a List.mem_cons_self
   have h1:=ef (xs:=l) (fun x hx=>h x (List.mem_cons_of_mem _ hx)) (i:=i) (j:=j) (by simpa using hx) hu
   simp only[List.flatten_cons]
   rw[List.getElem?_append_right (by rw[h2,Nat.succ_mul];omega),h2]
   rw[show (i+1) * sz+j - sz=i * sz+j by rw[Nat.succ_mul];omega]
   exact h1
theorem aj.ofOwn {base:Nat} {e:TypeId} {n:Nat} (h:w.ownsRow base e sz v n xs.flatten) (hn:n=xs.length) (hl:∀ x∈xs,x.length=sz) (hs:xs.length<=8796093022208):aj w v sz xs:=by
 subst hn
 rcases h.2 with ⟨rfl,h0⟩ | ⟨g,cap,cur,rfl,hb,hg,h1,h2,h3⟩
 ·have:xs=[]:=List.eq_nil_of_length_eq_zero h0
  subst this
  exact⟨by simp,none,0,rfl,by simp,Fz,.inl rfl⟩
 ·refine⟨hs,_,cap,rfl,h1,h2,?_⟩
  by_cases h0:xs=[]
  ·exact .inl h0
  ·refine .inr ⟨g,0,rfl,(Array.getElem?_eq_some_iff.1 hg).1,fun i j x u hx hu=>?_⟩
   have hil:=(FE hx).1
   have hjl:=(FE hu).1
   rw[hl x (FC hx)] at hjl
   have hlt:i * sz+j<xs.length * sz:=by
    calc i * sz+j<i * sz+sz:=by omega
     _=(i+1) * sz:=by rw[Nat.succ_mul]
     _<=xs.length * sz:=Nat.mul_le_mul_right _ hil
   rw[Nat.zero_add,h.cellAt _ hlt]
   exact ef hl hx hu
theorem aj.nil (w:World) (sz:Nat):aj w (.slice none 0 0) sz []:=⟨by simp,none,0,rfl,by simp,Fz,.inl rfl⟩
end
theorem cM (w:World) (o:Obj) (t:TypeId) (cs:Array Value):af ((w.alloc o).alloc (.cells cs t)) (w.heap.size+1) t cs:=by
 have h:=af.new (w.alloc o) t cs
 simpa using h
def bO (s:List UInt8):List Value:=[.string ⟨s.toArray⟩]
def aI (w:World) (v:Value) (l:List (List UInt8)):Prop:=aj w v 1 (l.map bO)
section
variable {w w' : World} {v : Value} {l : List (List UInt8)}
theorem aI.keep (h:aI w v l) (hb:Below w.heap.size w w'):aI w' v l:=aj.keep h hb
theorem aI.get (h:aI w v l) {i:Nat} {s:List UInt8} (hi:l[i]? = some s):∃ b off cap:Nat,v=.slice (some ⟨b,off,none⟩) l.length cap/\l.length<=cap/\cap<=maxLen/\b<w.heap.size/\w.cell? ⟨b,off+i,none⟩=some (.string ⟨s.toArray⟩):=by
 obtain⟨b,off,cap,h1,h2,h3,h4,h5⟩:=aj.get h (i:=i) (x:=bO s) (by simp [hi])
 exact⟨b,off,cap,by simpa using h1,by simpa using h2,h3,h4,by simpa using h5 0 _ rfl⟩
theorem aI.form (h:aI w v l):∃ (ad:Option Addr) (cap:Nat),v=.slice ad l.length cap/\l.length<=cap/\cap<=maxLen:=by
 obtain⟨ad,cap,h1,h2,h3⟩:=aj.form h
 exact⟨ad,cap,by simpa using h1,by simpa using h2,h3⟩
theorem aI.len (h:aI w v l):l.length<=8796093022208:=by simpa using aj.len h
theorem aI.take (h:aI w v l) {n:Nat} (hn:n<=l.length) {ad:Option Addr} {cap:Nat} (hv:v=.slice ad l.length cap):aI w (.slice ad n cap) (l.take n):=by
 have:=aj.take h (n:=n) (by simpa using hn) (ad:=ad) (cap:=cap) (by simpa using hv)
 unfold aI
 rwa [<-List.map_take] at this
end
def iE (l:List (List UInt8)) (s:List UInt8):Int:=if s∈l then (l.idxOf s:Int) else -1
theorem nC {l:List (List UInt8)} {s:List UInt8} {k:Nat} (h:l[k]? = some s) (hn:s ∉ l.take k):iE l s=k:=by
 have hm:s∈l:=FC h
 unfold iE
 rw[if_pos hm]
 have hk:=(FE h).1
 have e:l=l.take k++s::l.drop (k+1):=by
  rw[<- (FE h).2,List.getElem_cons_drop,List.take_append_drop]
 have:l.idxOf s=k:=by
  rw[e,List.idxOf_append,if_neg hn,List.idxOf_cons]
  simp
  omega
 rw[this]
theorem lB {l:List (List UInt8)} {s:List UInt8} (h:s ∉ l):iE l s = -1:=by
 unfold iE
 rw[if_neg h]
def hC (p:List Value->Bool) (xs:List (List Value)):Int:=match xs.findIdx? p with
 | some i=>i
 | none => -1
theorem kq {p:List Value->Bool} {xs:List (List Value)} {k:Nat} {x:List Value} (h:xs[k]? = some x) (hp:p x=true) (hn:∀ y∈xs.take k,p y=false):hC p xs=k:=by
 have hk:=(FE h).1
 have e:xs.findIdx? p=some k:=by
  rw[List.findIdx?_eq_some_iff_getElem]
  refine⟨hk,by rw[(FE h).2];exact hp,fun j hj=>?_⟩
  have:=hn (xs[j]'(by omega)) (by
   rw[List.mem_take_iff_getElem]
   exact⟨j,by omega,rfl⟩)
  simp [this]
 unfold hC
 rw[e]
theorem iR {p:List Value->Bool} {xs:List (List Value)} (hn:∀ y∈xs,p y=false):hC p xs = -1:=by
 have e:xs.findIdx? p=none:=by
  rw[List.findIdx?_eq_none_iff]
  exact hn
 unfold hC
 rw[e]
theorem Bc (p:List Value->Bool) (xs:List (List Value)):decide (0<=hC p xs)=xs.any p:=by
 unfold hC
 cases h:xs.findIdx? p with
 | none =>
   rw[List.findIdx?_eq_none_iff] at h
   have:xs.any p=false:=by rw[List.any_eq_false];intro x hx;simp [h x hx]
   rw[this]
   rfl
 | some i =>
   obtain⟨hi,hp,_⟩:=List.findIdx?_eq_some_iff_getElem.1 h
   have:xs.any p=true:=List.any_eq_true.2 ⟨xs[i],List.getElem_mem hi,hp⟩
   rw[this]
   simp
theorem EC {cs:List Value} (h:cs.length=1):∃ a,cs=[a]:=by
 match cs,h with
 | [a],_=>exact⟨a,rfl⟩
theorem Bt (l:List (List UInt8)) (s:List UInt8):decide (0<=iE l s)=decide (s∈l):=by
 unfold iE
 by_cases h:s∈l
 ·rw[if_pos h];simp [h]
 ·rw[if_neg h];simp [h]
theorem yw (w:World) (v:Value) (l:List (List UInt8)) (s:List UInt8) (h:aI w v l) :
 Calls prog 250 #[v,.string ⟨s.toArray⟩] w fun e w'=>e=.returned (.int .i64 (iE l s))/\w=w':=by
 obtain⟨ad,cap,rfl,hnc,hcm⟩:=h.form
 have hln:=h.len
 have HR:=Fx h
 unfold maxLen at hcm
 generalize hn:l.length=n at *
 have HN:=Fx hn
 clear h hn
 go_enter func250,ntmps250
 go_wp2_with fail
 go_loop [8] (fun i=>∃ k:Nat,k<=n/\i=.int .i64 k/\Hid (s ∉ l.take k)) (fun i=>n - (intOf i).toNat)
 case atStart=>exact⟨0,Fz,rfl,Fx (by simp)⟩
 case round =>
  obtain⟨k,hk,rfl,HP⟩:=hrel
  by_cases hlt:k<n
  ·obtain⟨x,hx⟩:∃ x,l[k]? = some x:=⟨l[k]'(by rw[HN.out];exact hlt),FD (by rw[HN.out];exact hlt)⟩
   obtain⟨b,off,cap',hv,_,_,hbl,hce⟩:=HR.out.get hx
   rw[HN.out] at hv
   simp only[Value.slice.injEq,true_and] at hv
   obtain⟨rfl,rfl⟩:=hv
   have HX:=Fx hx
   clear hx
   by_cases hq:s=x
   ·subst hq
    go_wp2_with fail
    go_ret
    exact⟨by rw[nC HX.out HP.out];rfl,rfl⟩
   ·have hq2:¬ ((⟨s.toArray⟩:ByteArray)=⟨x.toArray⟩):=fun e=>hq (gi.1 e)
    have hq3:(s == x)=false:=by simpa using hq
    have HQ:=Fx hq
    clear hq
    go_wp2_with fail
    go_round
    case rel =>
     refine⟨k+1,by omega,by go_num,Fx ?_⟩
     rw[List.take_add_one,HX.out]
     simp
     exact⟨HP.out,HQ.out⟩
    case measure=>simp [intOf];omega
  ·obtain rfl:k=n:=by omega
   go_wp2_with fail
   go_ret
   have hp:=HP.out
   rw[List.take_of_length_le (by rw[HN.out];exact FA)] at hp
   exact⟨by rw[lB hp];rfl,rfl⟩
theorem eQ (w:World) (v:Value) (l:List (List UInt8)) (s:List UInt8) (h:aI w v l) :
 Calls prog 200 #[v,.string ⟨s.toArray⟩] w fun e w'=>e=.returned (.bool (decide (s∈l)))/\w=w':=by
 have HI:=Fx (yw w v l s h)
 have HA:=Fx (Bt l s)
 clear h
 go_enter func200,ntmps200
 go_wp2_with fail
 refine HI.out.mono ?_
 rintro e w' ⟨rfl,rfl⟩
 generalize iE l s=q at *
 go_wp2_with fail
 go_ret
 exact⟨by rw[<-HA.out];rfl,rfl⟩
def dd.cells (t:dd):List Value:=[.string ⟨t.x.toArray⟩,.int .i64 t.k,.int .i64 t.n,.string ⟨t.t.toArray⟩]
def f9 (o:List (List UInt8)) (x:List UInt8):List (List UInt8):=if x∈o then o else o++[x]
def mo (o:List (List UInt8)) (t:dd):List (List UInt8):=if t.x=[] then o else f9 o t.x
def bU (ts:List dd):List (List UInt8):=ts.foldl mo []
def cg (al:List eb):List (List UInt8):=al.foldl (fun o a=>(bU a.ts).foldl f9 o) []
theorem nk (o:List (List UInt8)) (x:List UInt8):(f9 o x).length<=o.length+1:=by
 unfold f9
 split<;>simp
theorem AV (o:List (List UInt8)) (t:dd):(mo o t).length<=o.length+1:=by
 unfold mo
 split
 ·omega
 ·exact nk _ _
theorem eF {α β:Type} (f:β->α->β) (b:β) (l:List α) (k:Nat) (x:α) (h:l[k]? = some x):(l.take (k+1)).foldl f b=f ((l.take k).foldl f b) x:=by
 rw[List.take_add_one,h]
 simp
theorem kP {α:Type} (f:List (List UInt8)->α->List (List UInt8)) (hf:∀ o x,(f o x).length<=o.length+1) (b:List (List UInt8)) (l:List α):(l.foldl f b).length<=b.length+l.length:=by
 induction l generalizing b with
 | nil=>simp
 | cons a l ih =>
   have h1:=ih (f b a)
   have h2:=hf b a
   simp only[List.foldl_cons,List.length_cons]
   omega
def aV (B:Nat) (w:World) (v:Value) (l:List (List UInt8)):Prop:=w.ownsRow B 9 1 v l.length (l.map fun s=>.string ⟨s.toArray⟩)
theorem gj (l:List (List UInt8)):(l.map bO).flatten=l.map fun s=>Value.string ⟨s.toArray⟩:=by
 induction l with
 | nil=>rfl
 | cons a l ih=>simp [bO,ih]
theorem aV.strs {B:Nat} {w:World} {v:Value} {l:List (List UInt8)} (h:aV B w v l) (hl:l.length<=8796093022208):aI w v l:=by
 unfold aV at h
 rw[<-gj] at h
 exact aj.ofOwn h (by simp) (by intro x hx;simp at hx;obtain⟨s,_,rfl⟩:=hx;rfl) (by simpa using hl)
theorem Tryz.infoStr:(prog.info? 9).map (fun i=>(i.zero,i.size,i.bytes))=some (some (.string ⟨#[]⟩),1,16):=by kernel_rfl
theorem ri (ts:List dd):∀ x∈ts.map dd.cells,x.length=4:=by
 intro x hx
 simp at hx
 obtain⟨t,_,rfl⟩:=hx
 rfl
theorem fx {x:List UInt8} (h:x≠[]):¬ ((⟨x.toArray⟩:ByteArray)=⟨#[]⟩):=fun e=>h (gi.1 e)
theorem qN (w:World) (rel:ByteArray) (tv:Value) (ts:List dd) (h:aj w tv 4 (ts.map dd.cells)) (hn:ts.length<=2932031007317) :
 Calls prog 251 #[.agg #[.string rel,tv]] w fun e w'=>∃ v,e=.returned v/\aV w.heap.size w' v (bU ts)/\Below w.heap.size w w':=by
 obtain⟨i0,hi0,hz0,hz1,hz2⟩:=info_parts Tryz.infoStr
 obtain⟨ad,cap,rfl,hnc,hcm⟩:=h.form
 have hln:=h.len
 unfold maxLen at hcm
 simp only[List.length_map] at hnc hln ⊢
 have HR:=Fx h
 generalize hN:ts.length=n at *
 have HN:=Fx hN
 clear h hN
 go_enter func251,ntmps251
 go_wp2_with fail
 go_loopw [3,9] (fun v i wr=>∃ (k:Nat) (o:List (List UInt8)) (oa:Option Addr) (oc:Nat),k<=n/\i=.int .i64 k/\v=.slice oa o.length oc/\Hid (aV w.heap.size wr (.slice oa o.length oc) o)/\Hid (Below w.heap.size w wr)/\Hid (o=(ts.take k).foldl mo [])/\o.length<=k) (fun _ i _=>n - (intOf i).toNat)
 case atStart=>exact⟨0,[],none,0,Fz,rfl,rfl,Fx (World.ownsRow_nil _ _ _ _),Fx (ae Fy _),Fx rfl,Fz⟩
 case round =>
  obtain⟨k,o,oa,oc,hk,rfl,rfl,OW,HB,HE,hol⟩:=hrel
  by_cases hlt:k<n
  ·obtain⟨t,ht⟩:∃ t,ts[k]? = some t:=⟨ts[k]'(by rw[HN.out];exact hlt),FD (by rw[HN.out];exact hlt)⟩
   obtain⟨b,off,cap',hv,_,_,hbl,hce⟩:=(HR.out.keep HB.out).get (i:=k) (x:=t.cells) (by simp [ht])
   simp only[List.length_map,HN.out,Value.slice.injEq,true_and] at hv
   obtain⟨rfl,rfl⟩:=hv
   have q0:=hce 0 _ rfl
   have q1:=hce 1 _ rfl
   have q2:=hce 2 _ rfl
   have q3:=hce 3 _ rfl
   simp only[Nat.add_zero] at q0
   have hst:=eF mo [] ts k t ht
   rw[<-HE.out] at hst
   have HST:=Fx hst
   have hbz:=HB.out.size
   clear hce ht hst
   by_cases hx:t.x=[]
   ·have hadd:mo o t=o:=by unfold mo;rw[if_pos hx]
    rw[hx] at q0
    have HA:=Fx hadd
    clear hx hadd
    go_wp2_with fail
    go_roundw
    case rel=>exact⟨k+1,o,oa,oc,by omega,by go_num,rfl,Fx ((aq.ofBelow (F:=fun _=>False) (ae Fy _)).ownsRow OW.out (fun _ _ f=>f)),Fx (ae HB.out _),Fx (by rw[HST.out,HA.out]),by omega⟩
    case measure=>simp [intOf];omega
   ·have hct:=eQ (wr.alloc (.cells #[.string ⟨t.x.toArray⟩,.int .i64 t.k,.int .i64 t.n,.string ⟨t.t.toArray⟩] 113)) _ o t.x ((OW.out.strs (by omega)).keep (ae Fy _))
    have he:=fx hx
    have he2:t.x.isEmpty=false:=by
     cases hxx:t.x with
     | nil=>exact absurd hxx hx
     | cons _ _=>rfl
    have he3:(!t.x.isEmpty)=true:=by rw[he2];rfl
    have HX:=Fx hx
    by_cases hm:t.x∈o
    ·have hadd:mo o t=o:=by unfold mo f9;rw[if_neg hx,if_pos hm]
     rw[decide_eq_true hm] at hct
     have HA:=Fx hadd
     have HC:=Fx hct
     clear hx hadd hm hct
     go_wp2_with fail
     refine HC.out.mono ?_
     rintro e w2 ⟨rfl,rfl⟩
     go_wp2_with fail
     go_roundw
     case rel=>exact⟨k+1,o,oa,oc,by omega,by go_num,rfl,Fx ((aq.ofBelow (F:=fun _=>False) (ae Fy _)).ownsRow OW.out (fun _ _ f=>f)),Fx (ae HB.out _),Fx (by rw[HST.out,HA.out]),by omega⟩
     case measure=>simp [intOf];omega
    ·have hadd:mo o t=o++[t.x]:=by unfold mo f9;rw[if_neg hx,if_neg hm]
     rw[decide_eq_false hm] at hct
     have HA:=Fx hadd
     have HC:=Fx hct
     have OW2:=Fx (show World.ownsRow (wr.alloc (.cells #[.string ⟨t.x.toArray⟩,.int .i64 t.k,.int .i64 t.n,.string ⟨t.t.toArray⟩] 113)) w.heap.size 9 1 (.slice oa o.length oc) o.length _ from (aq.ofBelow (F:=fun _=>False) (ae Fy _)).ownsRow OW.out (fun _ _ f=>f))
     clear hx hadd hm hct
     go_wp2_with fail
     refine HC.out.mono ?_
     rintro e w2 ⟨rfl,rfl⟩
     go_wp2_with (at_builtin;refine wpList_append_lies _ rfl (.tmp 23) (.tmp 26) 28 rfl w.heap.size 9 i0 (.string ⟨#[]⟩) 1 16 underlying28 hi0 hz0 hz1 hz2 rfl (by decide) (.slice oa o.length oc) o.length _ rfl (OW2.out.alloc _) ⟨_,0,none⟩ 1 1 [.string ⟨t.x.toArray⟩] rfl rfl (World.news_of_block (cM _ _ _ _)) (by simp [Value.oneCell']) (by decide) ?c3 ?c5 ?c4 _ rfl ?_)
     case c3=>unfold maxLen;omega
     case c5=>omega
     case c4=>simp;omega
     intro g cap1 w3 hown2 hgrow2 hat2 hlt2
     have hb3:Below w.heap.size w w3:=(ae (ae HB.out _) _).grown hgrow2 (by simp;omega) (fun q hq=>(OW2.out.lt q hq).1)
     have HO:=Fx hown2
     have HB3:=Fx hb3
     clear hown2 hgrow2 hat2 hlt2 hb3
     go_wp2_with fail
     go_roundw
     case rel =>
      refine⟨k+1,o++[t.x],some ⟨g,0,none⟩,cap1,by omega,by go_num,by simp,Fx ?_,HB3,Fx (by rw[HST.out,HA.out]),by simp;omega⟩
      unfold aV
      have:=HO.out
      simpa using this
     case measure=>simp [intOf];omega
  ·obtain rfl:k=n:=by omega
   go_wp2_with fail
   go_ret
   refine⟨_,rfl,?_,HB.out⟩
   have he:=HE.out
   rw[List.take_of_length_le (by rw[HN.out];exact FA)] at he
   unfold bU
   rw[<-he]
   exact OW.out
def tZ (w:World) (row:List Value) (a:eb):Prop:=∃ tv,row=[.string ⟨a.rel.toArray⟩,tv]/\aj w tv 4 (a.ts.map dd.cells)/\a.ts.length<=2932031007317
def aK (w:World) (v:Value) (al:List eb):Prop:=∃ rows,aj w v 2 rows/\aH (tZ w) rows al
theorem tZ.keep {w w':World} {row:List Value} {a:eb} (h:tZ w row a) (hb:Below w.heap.size w w'):tZ w' row a:=by
 obtain⟨tv,rfl,h2,h3⟩:=h
 exact⟨tv,rfl,h2.keep hb,h3⟩
theorem aK.keep {w w':World} {v:Value} {al:List eb} (h:aK w v al) (hb:Below w.heap.size w w'):aK w' v al:=by
 obtain⟨rows,h1,h2⟩:=h
 exact⟨rows,h1.keep hb,h2.mono fun b a hh=>hh.keep hb⟩
theorem aK.form {w:World} {v:Value} {al:List eb} (h:aK w v al):∃ (ad:Option Addr) (cap:Nat),v=.slice ad al.length cap/\al.length<=cap/\cap<=maxLen:=by
 obtain⟨rows,h1,h2⟩:=h
 obtain⟨ad,cap,hv,h3,h4⟩:=h1.form
 rw[h2.length] at hv h3
 exact⟨ad,cap,hv,h3,h4⟩
theorem aK.get {w:World} {v:Value} {al:List eb} (h:aK w v al) {i:Nat} {a:eb} (hi:al[i]? = some a):∃ (b off cap:Nat) (tv:Value),v=.slice (some ⟨b,off,none⟩) al.length cap/\al.length<=cap/\cap<=maxLen/\b<w.heap.size /\
 w.cell? ⟨b,off+i * 2,none⟩=some (.string ⟨a.rel.toArray⟩)/\w.cell? ⟨b,off+i * 2+1,none⟩=some tv/\aj w tv 4 (a.ts.map dd.cells)/\a.ts.length<=2932031007317:=by
 obtain⟨rows,h1,h2⟩:=h
 obtain⟨row,hr,tv,rfl,h3,h4⟩:=h2.get hi
 obtain⟨b,off,cap,hv,h5,h6,h7,h8⟩:=h1.get hr
 rw[h2.length] at hv h5
 exact⟨b,off,cap,tv,hv,h5,h6,h7,h8 0 _ rfl,h8 1 _ rfl,h3,h4⟩
def fD (al:List eb):Nat:=(al.map fun a=>a.ts.length).sum
theorem nY {al:List eb} {k:Nat} {a:eb} (h:al[k]? = some a):fD (al.take (k+1))=fD (al.take k)+a.ts.length:=by
 unfold fD
 rw[List.take_add_one,h]
 simp
theorem ku:∀ (al:List eb) (k:Nat),fD (al.take k)<=fD al
 | [],k=>by simp [fD]
 | a::al,0=>by simp [fD]
 | a::al,k+1=>by
   have:=ku al k
   simp only[fD,List.take_succ_cons,List.map_cons,List.sum_cons] at this ⊢
   omega
theorem gQ (ts:List dd):(bU ts).length<=ts.length:=by
 have:=kP mo AV [] ts
 simpa [bU] using this
theorem zF (w:World) (name:ByteArray) (hv av:Value) (al:List eb) (h:aK w av al) (hn:al.length<=1048576) (hs:fD al<=1048576) :
 Calls prog 201 #[.agg #[.string name,hv,av]] w fun e w'=>∃ v,e=.returned v/\aV w.heap.size w' v (cg al)/\Below w.heap.size w w':=by
 obtain⟨i0,hi0,hz0,hz1,hz2⟩:=info_parts Tryz.infoStr
 obtain⟨ad,cap,rfl,hnc,hcm⟩:=h.form
 unfold maxLen at hcm
 have HR:=Fx h
 have HS:=Fx hs
 generalize hN:al.length=n at *
 have HN:=Fx hN
 clear h hN hs
 go_enter func201,ntmps201
 go_wp2_with fail
 go_loopw [3,11] (fun v i wr=>∃ (k:Nat) (o:List (List UInt8)) (oa:Option Addr) (oc:Nat),k<=n/\i=.int .i64 k/\v=.slice oa o.length oc/\Hid (aV w.heap.size wr (.slice oa o.length oc) o)/\Hid (Below w.heap.size w wr)/\Hid (o=(al.take k).foldl (fun o a=>(bU a.ts).foldl f9 o) [])/\o.length<=fD (al.take k)) (fun _ i _=>n - (intOf i).toNat)
 case atStart=>exact⟨0,[],none,0,Fz,rfl,rfl,Fx (World.ownsRow_nil _ _ _ _),Fx (ae Fy _),Fx rfl,Fz⟩
 case round =>
  obtain⟨k,o,oa,oc,hk,rfl,rfl,OW,HB,HE,hol⟩:=hrel
  obtain⟨wo,rfl⟩:∃ wo:World,wo=wr:=⟨_,rfl⟩
  by_cases hlt:k<n
  ·obtain⟨a,ha⟩:∃ a,al[k]? = some a:=⟨al[k]'(by rw[HN.out];exact hlt),FD (by rw[HN.out];exact hlt)⟩
   obtain⟨b,off,cap',tv,hv',_,_,hbl,q0,q1,hrow,hal⟩:=(HR.out.keep HB.out).get ha
   rw[HN.out] at hv'
   simp only[Value.slice.injEq,true_and] at hv'
   obtain⟨rfl,rfl⟩:=hv'
   obtain⟨ta,tc,rfl,_,_⟩:=hrow.form
   have hts:=nY ha
   have htl:=ku al (k+1)
   have hss:=HS.out
   have hst:=eF (fun o (a:eb)=>(bU a.ts).foldl f9 o) [] al k a ha
   rw[<-HE.out] at hst
   have hvl:=gQ a.ts
   have hbz:=HB.out.size
   have hav:=qN (wo.alloc (.cells #[.string ⟨a.rel.toArray⟩,.slice ta (a.ts.map dd.cells).length tc] 105)) ⟨a.rel.toArray⟩ _ a.ts (hrow.keep (ae Fy _)) hal
   have hal2:a.ts.length<=1048576:=by omega
   have hol2:o.length+a.ts.length<=1048576:=by omega
   have hol3:o.length+a.ts.length<=fD (al.take (k+1)):=by omega
   have HST:=Fx hst
   have HAV:=Fx hav
   have HO3:=Fx hol3
   generalize bU a.ts=L at *
   generalize a.ts.length=m at *
   generalize (a.ts.map dd.cells).length=m' at *
   clear ha hts htl hss hst hrow hal hav hol3 hol
   go_wp2_with fail
   refine HAV.out.mono ?_
   rintro e w1 ⟨v,rfl,hown,hb1⟩
   have hst1:aI w1 v L:=hown.strs (by omega)
   obtain⟨la,lc,rfl,hlc,hlm⟩:=hst1.form
   unfold maxLen at hlm
   have hb01:Below w.heap.size w w1:=(ae HB.out _).trans (hb1.mono (by simp;omega))
   have how1:aV w.heap.size w1 (.slice oa o.length oc) o:=(aq.ofBelow (F:=fun _=>False) hb1).ownsRow ((aq.ofBelow (F:=fun _=>False) (ae (Below.refl _ wo) _)).ownsRow OW.out (fun _ _ f=>f)) (fun _ _ f=>f)
   have hfar:∀ q,Value.ownBlock (.slice oa o.length oc)=some q->∀ q',Value.ownBlock (.slice la L.length lc)=some q'->q≠q':=by
    intro q hq q' hq'
    have h1:=(OW.out.lt q hq).2
    have h2:=(hown.lt q' hq').1
    simp at h2
    omega
   have HOW:=Fx hown
   have HOW1:=Fx how1
   have HB01:=Fx hb01
   have HF:=Fx hfar
   have hw1z:=hb1.size
   simp at hw1z
   clear hown hst1 hb01 how1 hfar hb1
   go_wp2_with fail
   go_loopw [3,18] (fun v i wr=>∃ (j:Nat) (p:List (List UInt8)) (pa:Option Addr) (pc:Nat),j<=L.length/\i=.int .i64 j/\v=.slice pa p.length pc/\Hid (aV w.heap.size wr (.slice pa p.length pc) p)/\Hid (aV w.heap.size wr (.slice la L.length lc) L)/\Hid (∀ q,Value.ownBlock (.slice pa p.length pc)=some q->∀ q',Value.ownBlock (.slice la L.length lc)=some q'->q≠q')/\Hid (Below w.heap.size w wr)/\Hid (p=(L.take j).foldl f9 o)/\p.length<=o.length+j) (fun _ i _=>L.length - (intOf i).toNat)
   case atStart=>exact⟨0,o,oa,oc,Fz,rfl,rfl,HOW1,Fx (World.ownsRow.low HOW.out (by simp;omega)),HF,HB01,Fx rfl,FA⟩
   case round =>
    obtain⟨j,p,pa,pc,hj,rfl,rfl,POW,LOW,PF,PB,PE,hpl⟩:=hrel
    by_cases hjl:j<L.length
    ·obtain⟨s,hs⟩:∃ s,L[j]? = some s:=⟨L[j],FD hjl⟩
     obtain⟨lb,lo,lc',hlv,_,_,hlbl,hsc⟩:=(LOW.out.strs (by omega)).get hs
     simp only[Value.slice.injEq,true_and] at hlv
     obtain⟨rfl,rfl⟩:=hlv
     have hsst:=eF f9 o L j s hs
     rw[<-PE.out] at hsst
     have HSST:=Fx hsst
     have hct:=eQ wr _ p s (POW.out.strs (by omega))
     have hzr:=PB.out.size
     clear hs hsst
     by_cases hm:s∈p
     ·have hadd:f9 p s=p:=by unfold f9;rw[if_pos hm]
      rw[decide_eq_true hm] at hct
      have HA:=Fx hadd
      have HC:=Fx hct
      clear hadd hm hct
      go_wp2_with fail
      refine HC.out.mono ?_
      rintro e w2 ⟨rfl,rfl⟩
      go_wp2_with fail
      go_roundw
      case rel=>exact⟨j+1,p,pa,pc,by omega,by go_num,rfl,POW,LOW,PF,PB,Fx (by rw[HSST.out,HA.out]),by omega⟩
      case measure=>simp [intOf];omega
     ·have hadd:f9 p s=p++[s]:=by unfold f9;rw[if_neg hm]
      rw[decide_eq_false hm] at hct
      have HA:=Fx hadd
      have HC:=Fx hct
      have POX:=Fx (show wr.ownsRow w.heap.size 9 1 (.slice pa p.length pc) p.length (p.map fun s=>.string ⟨s.toArray⟩) from POW.out)
      clear hadd hm hct
      go_wp2_with fail
      refine HC.out.mono ?_
      rintro e w2 ⟨rfl,rfl⟩
      go_wp2_with (at_builtin;refine wpList_append_lies _ rfl (.tmp 26) (.tmp 28) 28 rfl w.heap.size 9 i0 (.string ⟨#[]⟩) 1 16 underlying28 hi0 hz0 hz1 hz2 rfl (by decide) (.slice pa p.length pc) p.length _ rfl (POX.out.alloc _) ⟨_,0,none⟩ 1 1 [.string ⟨s.toArray⟩] rfl rfl (World.news_of_block (af.new _ _ _)) (by simp [Value.oneCell']) (by decide) ?c3 ?c5 ?c4 _ rfl ?_)
      case c3=>unfold maxLen;omega
      case c5=>omega
      case c4=>simp;omega
      intro g cap1 w3 hown2 hgrow2 hat2 hlt2
      have hb3:Below w.heap.size w w3:=(ae PB.out _).grown hgrow2 (by simp;omega) (fun q hq=>(POW.out.lt q hq).1)
      have hL3:aV w.heap.size w3 (.slice (some ⟨lb,lo,none⟩) L.length lc) L:=World.ownsRow.kept (World.ownsRow.alloc LOW.out _) hgrow2 (.inr (fun e=>by
       cases hp:Value.ownBlock (.slice pa p.length pc) with
       | none=>rw[hp] at e;simp [Value.ownBlock] at e
       | some q=>exact PF.out q hp q (e.trans hp) rfl))
      have hF3:∀ q,Value.ownBlock (.slice (some ⟨g,0,none⟩) (p.length+1) cap1)=some q->∀ q',Value.ownBlock (.slice (some ⟨lb,lo,none⟩) L.length lc)=some q'->q≠q':=by
       intro q hq q' hq'
       simp [Value.ownBlock] at hq
       subst hq
       rcases hat2 with h | h
       ·exact PF.out _ h q' hq'
       ·have:=(LOW.out.lt q' hq').2
        omega
      have HO:=Fx hown2
      have HB3:=Fx hb3
      have HL3:=Fx hL3
      have HF3:=Fx hF3
      clear hown2 hgrow2 hat2 hlt2 hb3 hL3 hF3
      go_wp2_with fail
      go_roundw
      case rel =>
       refine⟨j+1,p++[s],some ⟨g,0,none⟩,cap1,by omega,by go_num,by simp,Fx ?_,HL3,Fx (by simpa using HF3.out),HB3,Fx (by rw[HSST.out,HA.out]),by simp;omega⟩
       unfold aV
       have:=HO.out
       simpa using this
      case measure=>simp [intOf];omega
    ·obtain rfl:j=L.length:=by omega
     have pe:=PE.out
     rw[List.take_length] at pe
     have PE2:=Fx pe
     clear pe
     go_wp2_with fail
     go_roundw
     case rel =>
      refine⟨k+1,p,pa,pc,by omega,by go_num,rfl,POW,PB,Fx (by rw[HST.out];exact PE2.out),by have:=HO3.out;omega⟩
     case measure=>simp [intOf];omega
  ·obtain rfl:k=n:=by omega
   go_wp2_with fail
   go_ret
   refine⟨_,rfl,?_,HB.out⟩
   have he:=HE.out
   rw[List.take_of_length_le (by rw[HN.out];exact FA)] at he
   unfold cg
   rw[<-he]
   exact OW.out
theorem oM (g:Nat) (lb:Array Value) (eg:∀ args w,(callFunc g args).run prog w=.ok (.enter g args) w) (p:List Value->Bool) (w:World) (v:Value) (xs:List (List Value)) (h:aj w v 1 xs) (hl:∀ x∈xs,x.length=1)
 (hf:∀ (W:World) (x:List Value),Below w.heap.size w W->x∈xs->Calls prog g (#[x[0]!]++lb) W fun e W'=>e=.returned (.bool (p x))/\Below W.heap.size W W') :
 Calls prog 202 #[v,.func (.func g) #[] lb] w fun e w'=>e=.returned (.int .i64 (hC p xs))/\Below w.heap.size w w':=by
 obtain⟨ad,cap,rfl,hnc,hcm⟩:=h.form
 have hln:=h.len
 have HR:=Fx h
 have HL:=Fx hl
 have HF:=Fx hf
 unfold maxLen at hcm
 generalize hn:xs.length=n at *
 have HN:=Fx hn
 clear h hl hf hn
 go_enter func202,ntmps202
 go_wp2_with fail
 go_loopw [5,8] (fun _ i wr=>∃ k:Nat,k<=n/\i=.int .i64 k/\Hid (Below w.heap.size w wr)/\Hid (∀ x∈xs.take k,p x=false)) (fun _ i _=>n - (intOf i).toNat)
 case atStart=>exact⟨0,Fz,rfl,Fx Fy,Fx (by simp)⟩
 case round =>
  obtain⟨k,hk,rfl,HB,HP⟩:=hrel
  by_cases hlt:k<n
  ·obtain⟨x,hx⟩:∃ x,xs[k]? = some x:=⟨xs[k]'(by rw[HN.out];exact hlt),FD (by rw[HN.out];exact hlt)⟩
   have hm:x∈xs:=FC hx
   obtain⟨b,off,cap',hv,_,_,hbl,hce⟩:=(HR.out.keep HB.out).get hx
   rw[HN.out] at hv
   simp only[Value.slice.injEq,true_and] at hv
   obtain⟨rfl,rfl⟩:=hv
   obtain⟨e0,rfl⟩:=EC (HL.out x hm)
   have q0:=hce 0 e0 rfl
   simp only[Nat.mul_one,Nat.add_zero] at q0
   have hcall:=HF.out wr _ HB.out hm
   have HX:=Fx hx
   clear hce hm hx
   cases hq:p [e0] with
   | true =>
     rw[hq] at hcall
     have HC:=Fx hcall
     have HQ:=Fx hq
     clear hcall hq
     go_wp2_with fail
     refine HC.out.mono ?_
     rintro e w' ⟨rfl,hb'⟩
     have HB':=Fx hb'
     clear hb'
     go_wp2_with fail
     go_ret
     refine⟨?_,HB.out.trans (HB'.out.mono HB.out.size)⟩
     rw[kq HX.out HQ.out HP.out]
     rfl
   | false =>
     rw[hq] at hcall
     have HC:=Fx hcall
     have HQ:=Fx hq
     clear hcall hq
     go_wp2_with fail
     refine HC.out.mono ?_
     rintro e w' ⟨rfl,hb'⟩
     have HB':=Fx hb'
     clear hb'
     go_wp2_with fail
     go_roundw
     case rel =>
      refine⟨k+1,by omega,by go_num,Fx (HB.out.trans (HB'.out.mono HB.out.size)),Fx ?_⟩
      rw[List.take_add_one,HX.out]
      intro y hy
      simp at hy
      rcases hy with hy | rfl
      ·exact HP.out y hy
      ·exact HQ.out
     case measure=>simp [intOf];omega
  ·obtain rfl:k=n:=by omega
   go_wp2_with fail
   go_ret
   refine⟨?_,HB.out⟩
   have hp:=HP.out
   rw[List.take_of_length_le (by rw[HN.out];exact FA)] at hp
   rw[iR hp]
   rfl
def gw (seen:List (List UInt8)):List (List UInt8)->Nat->Int
 | [],_ => -1
 | s::r,i=>if s∈seen then i else gw (seen++[s]) r (i+1)
def fA (l:List (List UInt8)):Int:=gw [] l 0
theorem wD {l:List (List UInt8)} {k:Nat} {s:List UInt8} (h:l[k]? = some s) (hm:s∈l.take k):gw (l.take k) (l.drop k) k=k:=by
 rw[List.drop_eq_getElem_cons (FE h).1,(FE h).2]
 unfold gw
 rw[if_pos hm]
theorem rQ {l:List (List UInt8)} {k:Nat} {s:List UInt8} (h:l[k]? = some s) (hm:s ∉ l.take k):gw (l.take k) (l.drop k) k=gw (l.take (k+1)) (l.drop (k+1)) (k+1):=by
 rw[List.drop_eq_getElem_cons (FE h).1,(FE h).2]
 conv=>lhs;unfold gw
 rw[if_neg hm,List.take_add_one,h]
 rfl
theorem lR (w:World) (v:Value) (l:List (List UInt8)) (h:aI w v l) :
 Calls prog 140 #[v] w fun e w'=>e=.returned (.int .i64 (fA l))/\w=w':=by
 obtain⟨ad,cap,rfl,hnc,hcm⟩:=h.form
 have hln:=h.len
 have HR:=Fx h
 unfold maxLen at hcm
 have hres:gw (l.take 0) (l.drop 0) 0=fA l:=rfl
 generalize fA l=RES at *
 have HRES:=Fx hres
 generalize hn:l.length=n at *
 have HN:=Fx hn
 clear h hn hres
 go_enter func140,ntmps140
 go_wp2_with fail
 go_loop [3,4,7] (fun _ _ i=>∃ k:Nat,k<=n/\i=.int .i64 k/\Hid (gw (l.take k) (l.drop k) k=RES)) (fun _ _ i=>n - (intOf i).toNat)
 case atStart=>exact⟨0,Fz,rfl,HRES⟩
 case round =>
  obtain⟨k,hk,rfl,HP⟩:=hrel
  by_cases hlt:k<n
  ·obtain⟨x,hx⟩:∃ x,l[k]? = some x:=⟨l[k]'(by rw[HN.out];exact hlt),FD (by rw[HN.out];exact hlt)⟩
   obtain⟨b,off,cap',hv,_,_,hbl,hce⟩:=HR.out.get hx
   have htk:aI w (.slice ad k cap) (l.take k):=HR.out.take (by rw[HN.out];omega) (by rw[HN.out])
   rw[HN.out] at hv
   simp only[Value.slice.injEq,true_and] at hv
   obtain⟨rfl,rfl⟩:=hv
   have hct:=eQ w _ _ x htk
   have hkc:k<=cap:=by omega
   have hp:=HP.out
   by_cases hq:x∈l.take k
   ·rw[decide_eq_true hq] at hct
    rw[wD hx hq] at hp
    subst hp
    have HC:=Fx hct
    clear hx htk hct hq
    go_wp2_with fail
    refine HC.out.mono ?_
    rintro e w2 ⟨rfl,rfl⟩
    go_wp2_with fail
    go_ret
    exact⟨rfl,rfl⟩
   ·rw[decide_eq_false hq] at hct
    rw[rQ hx hq] at hp
    have HC:=Fx hct
    have HP2:=Fx hp
    clear hx htk hct hq hp
    go_wp2_with fail
    refine HC.out.mono ?_
    rintro e w2 ⟨rfl,rfl⟩
    go_wp2_with fail
    go_round
    case rel=>exact⟨k+1,by omega,by go_num,HP2⟩
    case measure=>simp [intOf];omega
  ·obtain rfl:k=n:=by omega
   have hp:=HP.out
   rw[List.drop_of_length_le (by rw[HN.out];exact FA)] at hp
   unfold gw at hp
   subst hp
   go_wp2_with fail
   go_ret
   exact⟨rfl,rfl⟩
def cj (vs:List (List UInt8)) (l:List (List UInt8)):Int:=hC (fun x=>match x with
 | [.string b] => !decide (b.data.toList∈vs)
 | _=>false) (l.map bO)
theorem oC (w:World) (b:Nat) (v:Value) (vs:List (List UInt8)) (s:List UInt8) (hc:w.cell? ⟨b,0,none⟩=some v) (hv:aI w v vs) :
 Calls prog 203 #[.string ⟨s.toArray⟩,.pointer (some ⟨b,0,none⟩)] w fun e w'=>e=.returned (.bool (!decide (s∈vs)))/\w=w':=by
 have HC:=Fx (eQ w v vs s hv)
 clear hv
 go_enter func203,ntmps203
 go_wp2_with fail
 refine HC.out.mono ?_
 rintro e w2 ⟨rfl,rfl⟩
 have hnot:∀ (x:Bool) (w:World),(Op.unary .not (.bool x)).run prog w=.ok (.bool (!x)) w:=fun _ _=>rfl
 have hq:∃ q,q=decide (s∈vs):=⟨_,rfl⟩
 obtain⟨q,hq⟩:=hq
 rw[<-hq]
 have HQ:=Fx hq
 clear hq
 go_wp2_with fail
 go_ret
 exact⟨by rw[HQ.out];rfl,rfl⟩
theorem jq (w:World) (name:ByteArray) (hv av:Value) (hd:List (List UInt8)) (al:List eb) (hh:aI w hv hd) (h:aK w av al) (hn:al.length<=1048576) (hs:fD al<=1048576) :
 Calls prog 141 #[.agg #[.string name,hv,av]] w fun e w'=>e=.returned (.int .i64 (cj (cg al) hd))/\Below w.heap.size w w':=by
 have hmf:∀ (fn:Fn) (first cap:Array Value) (w:World),(Instr.makeFunc fn first cap).run prog w=.ok (.func fn first cap) w:=fun _ _ _ _=>rfl
 have hb0:Below w.heap.size w (w.alloc (.cells #[.string name,hv,av] 50)):=ae Fy _
 have hV:=zF (w.alloc (.cells #[.string name,hv,av] 50)) name hv av al (h.keep hb0) hn hs
 have HV:=Fx hV
 have HB0:=Fx hb0
 have HH:=Fx hh
 have qb:=af.new w 50 #[.string name,hv,av]
 have QB:=Fx qb
 have hql:(cg al).length<=8796093022208:=by
  have:∀ (al:List eb) (o:List (List UInt8)),(al.foldl (fun o a=>(bU a.ts).foldl f9 o) o).length<=o.length+fD al:=by
   intro al
   induction al with
   | nil=>intro o;simp
   | cons a al ih =>
     intro o
     have h1:=ih ((bU a.ts).foldl f9 o)
     have h2:=kP f9 nk o (bU a.ts)
     have h3:=gQ a.ts
     simp only[List.foldl_cons,fD,List.map_cons,List.sum_cons] at h1 ⊢
     omega
  have:=this al []
  simp only[List.length_nil,Nat.zero_add] at this
  unfold cg
  omega
 have HQL:=Fx hql
 clear h hV hb0 hh qb hql
 unfold cj
 generalize cg al=vs at *
 go_enter func141,ntmps141
 go_wp2_with fail
 refine HV.out.mono ?_
 rintro e w1 ⟨v,rfl,hown,hb1⟩
 obtain⟨va,vc,rfl⟩:=aB hown
 have qb1:=QB.out.below hb1 (by simp)
 have q0:=qb1.cell 0
 have q1:=qb1.cell 1
 have q2:=qb1.cell 2
 simp only[FF] at q0 q1 q2
 have hql:=qb1.lt
 have hb01:Below w.heap.size w w1:=HB0.out.trans (hb1.mono (by simp))
 have hst:=(hown.strs HQL.out).keep (ae Fy (.cells #[.slice va vs.length vc] 28))
 have vb:=af.new w1 28 #[.slice va vs.length vc]
 have hI:=oM 203 #[.pointer (some ⟨w1.heap.size,0,none⟩)] (enters_of func203 (by kernel_rfl) rfl) (fun x=>match x with
  | [.string b] => !decide (b.data.toList∈vs)
  | _=>false) (w1.alloc (.cells #[.slice va vs.length vc] 28)) hv (hd.map bO) (HH.out.keep (ae hb01 _)) (by intro x hx;simp at hx;obtain⟨s,_,rfl⟩:=hx;rfl) (by
    intro W x hW hx
    simp at hx
    obtain⟨s,_,rfl⟩:=hx
    refine (oC W w1.heap.size _ vs s ((vb.below hW (by simp)).cell 0) (hst.keep hW)).mono ?_
    rintro e W' ⟨rfl,rfl⟩
    exact⟨rfl,Below.refl _ _⟩)
 have HI:=Fx hI
 have HB01:=Fx hb01
 clear qb1 hown hb1 hst vb hI hb01
 go_wp2_with fail
 refine HI.out.mono ?_
 rintro e w2 ⟨rfl,hb2⟩
 have HB2:=Fx hb2
 clear hb2
 go_wp2_with fail
 go_ret
 exact⟨rfl,(ae HB01.out _).trans (HB2.out.mono (by have:=HB01.out.size;simp;omega))⟩
abbrev eZ:=(List UInt8 × Int) × List (dd × Int)
def fH:List eZ->Option (Int × Int)
 | []=>none
 | a::r=>match a.2[5]? with
   | some t=>some (t.2,91)
   | none=>fH r
def nF (l:List eZ):Option (Int × Int):=match l[6]? with
 | some a=>some (a.1.2,90)
 | none=>fH l
def cJ (n:List UInt8 × Int) (hs:List (List UInt8 × Int)) (l:List eZ):cf:=⟨n.1,hs.map (·.1),l.map fun a=>⟨a.1.1,a.2.map (·.1)⟩⟩
def tH (n:List UInt8 × Int) (hs:List (List UInt8 × Int)) (l:List eZ):PR cf :=
 match nF l with
 | some x=>.bad x.1 x.2
 | none =>
   match hs[(fA (hs.map (·.1))).toNat]?,decide (0<=fA (hs.map (·.1))) with
   | some h,true=>.bad h.2 92
   | _,_ =>
     match hs[(cj (cg (cJ n hs l).atoms) (hs.map (·.1))).toNat]?,decide (0<=cj (cg (cJ n hs l).atoms) (hs.map (·.1))) with
     | some h,true=>.bad h.2 93
     | _,_=>.ok (cJ n hs l) []
def fm (c:List ak):PR cf :=
 match aY c with
 | .bad a e=>.bad a e
 | .ok n c1 =>
   match aJ aY c1 with
   | .bad a e=>.bad a e
   | .ok hs c2 =>
     match tk 3 [[58,45]] c2 with
     | .bad a e=>.bad a e
     | .ok _ c3 =>
       match aQ bS c3 with
       | .bad a e=>.bad a e
       | .ok l c4 =>
         match tk 0 [] c4 with
         | .bad a e=>.bad a e
         | .ok _ _=>tH n hs l
def iu (w:World) (v:Value) (l:List eZ):Prop:=∃ css,aj w v 3 css/\aH (fun cs (x:eZ)=>∃ tv,cs=[.string ⟨x.1.1.toArray⟩,.int .i64 x.1.2,tv]/\aj w tv 5 (x.2.map gV)) css l
theorem iu.keep {w w':World} {v:Value} {l:List eZ} (h:iu w v l) (hb:Below w.heap.size w w'):iu w' v l:=by
 obtain⟨css,h1,h2⟩:=h
 exact⟨css,h1.keep hb,h2.mono fun b a ⟨tv,e,hh⟩=>⟨tv,e,hh.keep hb⟩⟩
theorem iu.form {w:World} {v:Value} {l:List eZ} (h:iu w v l):∃ (ad:Option Addr) (cap:Nat),v=.slice ad l.length cap/\l.length<=cap/\cap<=maxLen:=by
 obtain⟨rows,h1,h2⟩:=h
 obtain⟨ad,cap,hv,h3,h4⟩:=h1.form
 rw[h2.length] at hv h3
 exact⟨ad,cap,hv,h3,h4⟩
theorem iu.get {w:World} {v:Value} {l:List eZ} (h:iu w v l) {i:Nat} {a:eZ} (hi:l[i]? = some a):∃ (b off cap:Nat) (ta:Option Addr) (tc:Nat),v=.slice (some ⟨b,off,none⟩) l.length cap/\l.length<=cap/\cap<=maxLen/\b<w.heap.size /\
 w.cell? ⟨b,off+i * 3,none⟩=some (.string ⟨a.1.1.toArray⟩)/\w.cell? ⟨b,off+i * 3+1,none⟩=some (.int .i64 a.1.2)/\w.cell? ⟨b,off+i * 3+2,none⟩=some (.slice ta a.2.length tc)/\aj w (.slice ta a.2.length tc) 5 (a.2.map gV):=by
 obtain⟨rows,h1,h2⟩:=h
 obtain⟨row,hr,tv,rfl,h3⟩:=h2.get hi
 obtain⟨b,off,cap,hv,h5,h6,h7,h8⟩:=h1.get hr
 rw[h2.length] at hv h5
 obtain⟨ta,tc,rfl,_,_⟩:=h3.form
 simp only[List.length_map] at h3 h8
 exact⟨b,off,cap,ta,tc,hv,h5,h6,h7,h8 0 _ rfl,h8 1 _ rfl,h8 2 _ rfl,h3⟩
def mE (w:World):Option (Int × Int)->Ending->World->Prop
 | some x,e,w'=>e=.panicked [{ v:=aP x.1 x.2,recovered:=false }]/\Below w.heap.size w w'
 | none,e,w'=>e=.returned (.tuple #[])/\Below w.heap.size w w'
theorem Bo {l:List eZ} {k:Nat} {a:eZ} {t:dd × Int} (h:l[k]? = some a) (ht:a.2[5]? = some t):fH (l.drop k)=some (t.2,91):=by
 rw[List.drop_eq_getElem_cons (FE h).1,(FE h).2]
 simp [fH,ht]
theorem zi {l:List eZ} {k:Nat} {a:eZ} (h:l[k]? = some a) (ht:a.2[5]? = none):fH (l.drop k)=fH (l.drop (k+1)):=by
 rw[List.drop_eq_getElem_cons (FE h).1,(FE h).2]
 conv=>lhs;unfold fH
 rw[ht]
theorem ti (w:World) (v:Value) (l:List eZ) (h:iu w v l) (a:eZ) (h6:l[6]? = some a):Calls prog 139 #[v] w (mE w (some (a.1.2,90))):=by
 obtain⟨b,off,cap,ta,tc,rfl,hnc,hcm,hbl,k0,k1,k2,hr⟩:=h.get h6
 have hl:6<l.length:=(FE h6).1
 unfold maxLen at hcm
 have hd:decide ((6:Int)<(l.length:Int))=true:=by simp;omega
 have k1':w.cell? ⟨b,off+18+1,none⟩=some (.int .i64 a.1.2):=k1
 clear h h6 hr
 unfold aP at *
 go_enter func139,ntmps139
 go_wp2_with fail
 exact⟨rfl,rfl,Below.refl _ _⟩
theorem uL (w:World) (v:Value) (l:List eZ) (h:iu w v l) (h6:l[6]? = none):Calls prog 139 #[v] w (mE w (fH l)):=by
 obtain⟨ad,cap,rfl,hnc,hcm⟩:=h.form
 have hl6:l.length<=6:=by
  rcases Nat.lt_or_ge 6 l.length with hh | hh
  ·rw[FD hh] at h6;cases h6
  ·exact hh
 have hd:decide ((6:Int)<(l.length:Int))=false:=by simp;omega
 unfold maxLen at hcm
 have HR:=Fx h
 have hres:fH (l.drop 0)=fH l:=rfl
 generalize fH l=RES at *
 have HRES:=Fx hres
 generalize hn:l.length=n at *
 have HN:=Fx hn
 clear h hn hres h6
 go_enter func139,ntmps139
 go_wp2_with fail
 go_loopw [16] (fun i wr=>∃ k:Nat,k<=n/\i=.int .i64 k/\Hid (Below w.heap.size w wr)/\Hid (fH (l.drop k)=RES)) (fun i _=>n - (intOf i).toNat)
 case atStart=>exact⟨0,Fz,rfl,Fx Fy,HRES⟩
 case round =>
  obtain⟨k,hk,rfl,HB,HP⟩:=hrel
  by_cases hlt:k<n
  ·obtain⟨a,ha⟩:∃ a,l[k]? = some a:=⟨l[k]'(by rw[HN.out];exact hlt),FD (by rw[HN.out];exact hlt)⟩
   obtain⟨b,off,cap',ta,tc,hv,_,_,hbl,k0,k1,k2,hr⟩:=(HR.out.keep HB.out).get ha
   rw[HN.out] at hv
   simp only[Value.slice.injEq,true_and] at hv
   obtain⟨rfl,rfl⟩:=hv
   have hp:=HP.out
   cases ht:a.2[5]? with
   | some t =>
     have h5:5<a.2.length:=(FE ht).1
     obtain⟨tb,tfo,tcap,htv,_,_,htl,htc⟩:=hr.get (i:=5) (x:=gV t) (by simp [ht])
     simp only[List.length_map,Value.slice.injEq,true_and] at htv
     obtain⟨rfl,rfl⟩:=htv
     have q4:wr.cell? ⟨tb,tfo+25+4,none⟩=some (.int .i64 t.2):=htc 4 _ rfl
     have hd5:decide ((5:Int)<(a.2.length:Int))=true:=by simp;omega
     rw[Bo ha ht] at hp
     subst hp
     clear ht htc hr ha
     generalize a.2.length=m at *
     unfold mE aP at *
     go_wp2_with fail
     exact⟨rfl,rfl,ae HB.out _⟩
   | none =>
     have h5:a.2.length<=5:=by
      rcases Nat.lt_or_ge 5 a.2.length with hh | hh
      ·rw[FD hh] at ht;cases ht
      ·exact hh
     have hd5:decide ((5:Int)<(a.2.length:Int))=false:=by simp;omega
     rw[zi ha ht] at hp
     have HP2:=Fx hp
     clear ht hr ha hp
     generalize a.2.length=m at *
     go_wp2_with fail
     go_roundw
     case rel=>exact⟨k+1,by omega,by go_num,Fx (ae HB.out _),HP2⟩
     case measure=>simp [intOf];omega
  ·obtain rfl:k=n:=by omega
   have hp:=HP.out
   rw[List.drop_of_length_le (by rw[HN.out];exact FA)] at hp
   unfold fH at hp
   subst hp
   go_wp2_with fail
   go_end0
   exact⟨rfl,HB.out⟩
theorem wl (w:World) (v:Value) (l:List eZ) (h:iu w v l):Calls prog 139 #[v] w (mE w (nF l)):=by
 unfold nF
 cases h6:l[6]? with
 | some a=>exact ti w v l h a h6
 | none=>exact uL w v l h h6
