/- Rows of cells that can be read. slices.Index, slices.Contains at texts, walked. query.AtomVars, walked. query.Vars, walked. slices.IndexFunc, ContainsFunc at string, walked (printed by idx.py). query.doubled, query.unsafeVar, query.limits, walked. What query.Parse tells, plainly. -/
import Derived.Test.YtgopfpjinohncaaGreatDoorGaL
import Derived.Shelf.Abstract
namespace Go.Proofs.YtgopfpjinohncaaGreatDoor
open Go.RowKit
set_option linter.unusedVariables false
def RowAt (w:World) (v:Value) (sz:Nat) (xs:List (List Value)):Prop :=
 xs.length<=8796093022208/\∃ (ad:Option Addr) (cap:Nat),v=.slice ad xs.length cap/\xs.length<=cap/\cap<=maxLen /\
  (xs=[]∨∃ b off:Nat,ad=some ⟨b,off,none⟩/\b<w.heap.size/\∀ (i j:Nat) (x:List Value) (u:Value),xs[i]? = some x->x[j]? = some u->w.cell? ⟨b,off+i * sz+j,none⟩=some u)
section
variable {w w' : World} {v : Value} {sz : Nat} {xs : List (List Value)}
theorem RowAt.keep (h:RowAt w v sz xs) (hb:Below w.heap.size w w'):RowAt w' v sz xs:=by
 obtain⟨h1,ad,cap,rfl,h2,h3,h4⟩:=h
 refine⟨h1,ad,cap,rfl,h2,h3,?_⟩
 rcases h4 with h4 | ⟨b,off,rfl,h5,h6⟩
 ·exact .inl h4
 ·exact .inr ⟨b,off,rfl,Nat.lt_of_lt_of_le h5 hb.size,fun i j x u hx hu=>(hb.cell (p:=⟨b,off+i * sz+j,none⟩) h5).trans (h6 i j x u hx hu)⟩
theorem RowAt.get (h:RowAt w v sz xs) {i:Nat} {x:List Value} (hi:xs[i]? = some x):∃ b off cap:Nat,v=.slice (some ⟨b,off,none⟩) xs.length cap/\xs.length<=cap/\cap<=maxLen/\b<w.heap.size /\
 ∀ (j:Nat) (u:Value),x[j]? = some u->w.cell? ⟨b,off+i * sz+j,none⟩=some u:=by
 obtain⟨h1,ad,cap,rfl,h2,h3,h4⟩:=h
 rcases h4 with h4 | ⟨b,off,rfl,h5,h6⟩
 ·subst h4;simp at hi
 ·exact⟨b,off,cap,rfl,h2,h3,h5,fun j u hu=>h6 i j x u hi hu⟩
theorem RowAt.form (h:RowAt w v sz xs):∃ (ad:Option Addr) (cap:Nat),v=.slice ad xs.length cap/\xs.length<=cap/\cap<=maxLen:=by
 obtain⟨h1,ad,cap,rfl,h2,h3,h4⟩:=h
 exact⟨ad,cap,rfl,h2,h3⟩
theorem RowAt.len (h:RowAt w v sz xs):xs.length<=8796093022208:=h.1
theorem RowAt.take (h:RowAt w v sz xs) {n:Nat} (hn:n<=xs.length):∀ {ad:Option Addr} {cap:Nat},v=.slice ad xs.length cap->RowAt w (.slice ad n cap) sz (xs.take n):=by
 intro ad cap hv
 obtain⟨h1,ad',cap',hv',h2,h3,h4⟩:=h
 rw[hv] at hv'
 simp only[Value.slice.injEq,true_and] at hv'
 obtain⟨rfl,rfl⟩:=hv'
 have hl:(xs.take n).length=n:=by rw[List.length_take];omega
 refine⟨by omega,ad,cap,by rw[hl],by omega,h3,?_⟩
 rcases h4 with h4 | ⟨b,off,rfl,h5,h6⟩
 ·subst h4;exact .inl (by simp)
 ·refine .inr ⟨b,off,rfl,h5,fun i j x u hx hu=>h6 i j x u ?_ hu⟩
  rw[List.getElem?_take] at hx
  split at hx
  ·exact hx
  ·simp at hx
theorem flatten_len:∀ {xs:List (List Value)},(∀ x∈xs,x.length=sz)->xs.flatten.length=xs.length * sz
 | [],_=>by simp
 | a::l,h=>by
   have h1:=flatten_len (xs:=l) fun x hx=>h x (List.mem_cons_of_mem _ hx)
   have h2:=h a List.mem_cons_self
   simp only[List.flatten_cons,List.length_append,List.length_cons,h1,h2,Nat.succ_mul]
   omega
theorem flatten_at:∀ {xs:List (List Value)} (_:∀ x∈xs,x.length=sz) {i j:Nat} {x:List Value} {u:Value},xs[i]? = some x->x[j]? = some u->xs.flatten[i * sz+j]? = some u
 | [],_,i,j,x,u,hx,_=>by simp at hx
 | a::l,h,0,j,x,u,hx,hu=>by
   simp at hx
   subst hx
   have hj:=(List.getElem?_eq_some_iff.1 hu).1
   simp only[List.flatten_cons,Nat.zero_mul,Nat.zero_add]
   rw[List.getElem?_append_left hj]
   exact hu
 | a::l,h,i+1,j,x,u,hx,hu=>by
   have h2:=h a List.mem_cons_self
   have h1:=flatten_at (xs:=l) (fun x hx=>h x (List.mem_cons_of_mem _ hx)) (i:=i) (j:=j) (by simpa using hx) hu
   simp only[List.flatten_cons]
   rw[List.getElem?_append_right (by rw[h2,Nat.succ_mul];omega),h2]
   rw[show (i+1) * sz+j - sz=i * sz+j by rw[Nat.succ_mul];omega]
   exact h1
theorem RowAt.ofOwn {base:Nat} {e:TypeId} {n:Nat} (h:w.ownsRow base e sz v n xs.flatten) (hn:n=xs.length) (hl:∀ x∈xs,x.length=sz) (hs:xs.length<=8796093022208):RowAt w v sz xs:=by
 subst hn
 rcases h.2 with ⟨rfl,h0⟩ | ⟨g,cap,cur,rfl,hb,hg,h1,h2,h3⟩
 ·have:xs=[]:=List.eq_nil_of_length_eq_zero h0
  subst this
  exact⟨by simp,none,0,rfl,by simp,Nat.zero_le _,.inl rfl⟩
 ·refine⟨hs,_,cap,rfl,h1,h2,?_⟩
  by_cases h0:xs=[]
  ·exact .inl h0
  ·refine .inr ⟨g,0,rfl,(Array.getElem?_eq_some_iff.1 hg).1,fun i j x u hx hu=>?_⟩
   have hil:=(List.getElem?_eq_some_iff.1 hx).1
   have hjl:=(List.getElem?_eq_some_iff.1 hu).1
   rw[hl x (List.mem_of_getElem? hx)] at hjl
   have hlt:i * sz+j<xs.length * sz:=by
    calc i * sz+j<i * sz+sz:=by omega
     _=(i+1) * sz:=by rw[Nat.succ_mul]
     _<=xs.length * sz:=Nat.mul_le_mul_right _ hil
   rw[Nat.zero_add,h.cellAt _ hlt]
   exact flatten_at hl hx hu
theorem RowAt.nil (w:World) (sz:Nat):RowAt w (.slice none 0 0) sz []:=⟨by simp,none,0,rfl,by simp,Nat.zero_le _,.inl rfl⟩
end
theorem blkNew1 (w:World) (o:Obj) (t:TypeId) (cs:Array Value):Blk ((w.alloc o).alloc (.cells cs t)) (w.heap.size+1) t cs:=by
 have h:=Blk.new (w.alloc o) t cs
 simpa using h
def strC (s:List UInt8):List Value:=[.string ⟨s.toArray⟩]
def StrsAt (w:World) (v:Value) (l:List (List UInt8)):Prop:=RowAt w v 1 (l.map strC)
section
variable {w w' : World} {v : Value} {l : List (List UInt8)}
theorem StrsAt.keep (h:StrsAt w v l) (hb:Below w.heap.size w w'):StrsAt w' v l:=RowAt.keep h hb
theorem StrsAt.get (h:StrsAt w v l) {i:Nat} {s:List UInt8} (hi:l[i]? = some s):∃ b off cap:Nat,v=.slice (some ⟨b,off,none⟩) l.length cap/\l.length<=cap/\cap<=maxLen/\b<w.heap.size/\w.cell? ⟨b,off+i,none⟩=some (.string ⟨s.toArray⟩):=by
 obtain⟨b,off,cap,h1,h2,h3,h4,h5⟩:=RowAt.get h (i:=i) (x:=strC s) (by simp [hi])
 exact⟨b,off,cap,by simpa using h1,by simpa using h2,h3,h4,by simpa using h5 0 _ rfl⟩
theorem StrsAt.form (h:StrsAt w v l):∃ (ad:Option Addr) (cap:Nat),v=.slice ad l.length cap/\l.length<=cap/\cap<=maxLen:=by
 obtain⟨ad,cap,h1,h2,h3⟩:=RowAt.form h
 exact⟨ad,cap,by simpa using h1,by simpa using h2,h3⟩
theorem StrsAt.len (h:StrsAt w v l):l.length<=8796093022208:=by simpa using RowAt.len h
theorem StrsAt.take (h:StrsAt w v l) {n:Nat} (hn:n<=l.length) {ad:Option Addr} {cap:Nat} (hv:v=.slice ad l.length cap):StrsAt w (.slice ad n cap) (l.take n):=by
 have:=RowAt.take h (n:=n) (by simpa using hn) (ad:=ad) (cap:=cap) (by simpa using hv)
 unfold StrsAt
 rwa [<-List.map_take] at this
end
def idxI (l:List (List UInt8)) (s:List UInt8):Int:=if s∈l then (l.idxOf s:Int) else -1
theorem idxI_hit {l:List (List UInt8)} {s:List UInt8} {k:Nat} (h:l[k]? = some s) (hn:s ∉ l.take k):idxI l s=k:=by
 have hm:s∈l:=List.mem_of_getElem? h
 unfold idxI
 rw[if_pos hm]
 have hk:=(List.getElem?_eq_some_iff.1 h).1
 have e:l=l.take k++s::l.drop (k+1):=by
  rw[<- (List.getElem?_eq_some_iff.1 h).2,List.getElem_cons_drop,List.take_append_drop]
 have:l.idxOf s=k:=by
  rw[e,List.idxOf_append,if_neg hn,List.idxOf_cons]
  simp
  omega
 rw[this]
theorem idxI_miss {l:List (List UInt8)} {s:List UInt8} (h:s ∉ l):idxI l s = -1:=by
 unfold idxI
 rw[if_neg h]
def idxP (p:List Value->Bool) (xs:List (List Value)):Int:=match xs.findIdx? p with
 | some i=>i
 | none => -1
theorem idxP_hit {p:List Value->Bool} {xs:List (List Value)} {k:Nat} {x:List Value} (h:xs[k]? = some x) (hp:p x=true) (hn:∀ y∈xs.take k,p y=false):idxP p xs=k:=by
 have hk:=(List.getElem?_eq_some_iff.1 h).1
 have e:xs.findIdx? p=some k:=by
  rw[List.findIdx?_eq_some_iff_getElem]
  refine⟨hk,by rw[(List.getElem?_eq_some_iff.1 h).2];exact hp,fun j hj=>?_⟩
  have:=hn (xs[j]'(by omega)) (by
   rw[List.mem_take_iff_getElem]
   exact⟨j,by omega,rfl⟩)
  simp [this]
 unfold idxP
 rw[e]
theorem idxP_miss {p:List Value->Bool} {xs:List (List Value)} (hn:∀ y∈xs,p y=false):idxP p xs = -1:=by
 have e:xs.findIdx? p=none:=by
  rw[List.findIdx?_eq_none_iff]
  exact hn
 unfold idxP
 rw[e]
theorem idxP_any (p:List Value->Bool) (xs:List (List Value)):decide (0<=idxP p xs)=xs.any p:=by
 unfold idxP
 cases h:xs.findIdx? p with
 | none =>
   rw[List.findIdx?_eq_none_iff] at h
   have:xs.any p=false:=by rw[List.any_eq_false];intro x hx;simp [h x hx]
   rw[this]
   rfl
 | some i =>
   obtain⟨hi,hp,_⟩:=List.findIdx?_eq_some_iff_getElem.1 h
   have:xs.any p=true:=List.any_eq_true.2 ⟨xs[i],List.getElem_mem hi,hp⟩
   rw[this]
   simp
theorem len1 {cs:List Value} (h:cs.length=1):∃ a,cs=[a]:=by
 match cs,h with
 | [a],_=>exact⟨a,rfl⟩
theorem idxI_any (l:List (List UInt8)) (s:List UInt8):decide (0<=idxI l s)=decide (s∈l):=by
 unfold idxI
 by_cases h:s∈l
 ·rw[if_pos h];simp [h]
 ·rw[if_neg h];simp [h]
set_option maxHeartbeats 4000000 in
set_option maxRecDepth 100000 in
theorem index_any (w:World) (v:Value) (l:List (List UInt8)) (s:List UInt8) (h:StrsAt w v l) :
 Calls Tryz.prog 250 #[v,.string ⟨s.toArray⟩] w fun e w'=>e=.returned (.int .i64 (idxI l s))/\w=w':=by
 obtain⟨ad,cap,rfl,hnc,hcm⟩:=h.form
 have hln:=h.len
 have HR:=Lib.hid h
 unfold maxLen at hcm
 generalize hn:l.length=n at *
 have HN:=Lib.hid hn
 clear h hn
 go_enter Tryz.func250,Tryz.ntmps250
 go_wp2_with fail
 go_loop [8] (fun i=>∃ k:Nat,k<=n/\i=.int .i64 k/\Hid (s ∉ l.take k)) (fun i=>n - (intOf i).toNat)
 case atStart=>exact⟨0,Nat.zero_le _,rfl,Lib.hid (by simp)⟩
 case round =>
  obtain⟨k,hk,rfl,HP⟩:=hrel
  by_cases hlt:k<n
  ·obtain⟨x,hx⟩:∃ x,l[k]? = some x:=⟨l[k]'(by rw[HN.out];exact hlt),List.getElem?_eq_getElem (by rw[HN.out];exact hlt)⟩
   obtain⟨b,off,cap',hv,_,_,hbl,hce⟩:=HR.out.get hx
   rw[HN.out] at hv
   simp only[Value.slice.injEq,true_and] at hv
   obtain⟨rfl,rfl⟩:=hv
   have HX:=Lib.hid hx
   clear hx
   by_cases hq:s=x
   ·subst hq
    go_wp2_with fail
    go_ret
    exact⟨by rw[idxI_hit HX.out HP.out];rfl,rfl⟩
   ·have hq2:¬ ((⟨s.toArray⟩:ByteArray)=⟨x.toArray⟩):=fun e=>hq (bytes_eq.1 e)
    have hq3:(s == x)=false:=by simpa using hq
    have HQ:=Lib.hid hq
    clear hq
    go_wp2_with fail
    go_round
    case rel =>
     refine⟨k+1,by omega,by go_num,Lib.hid ?_⟩
     rw[List.take_add_one,HX.out]
     simp
     exact⟨HP.out,HQ.out⟩
    case measure=>simp [intOf];omega
  ·obtain rfl:k=n:=by omega
   go_wp2_with fail
   go_ret
   have hp:=HP.out
   rw[List.take_of_length_le (by rw[HN.out];exact Nat.le_refl _)] at hp
   exact⟨by rw[idxI_miss hp];rfl,rfl⟩
set_option maxHeartbeats 4000000 in
set_option maxRecDepth 100000 in
theorem contains_any (w:World) (v:Value) (l:List (List UInt8)) (s:List UInt8) (h:StrsAt w v l) :
 Calls Tryz.prog 200 #[v,.string ⟨s.toArray⟩] w fun e w'=>e=.returned (.bool (decide (s∈l)))/\w=w':=by
 have HI:=Lib.hid (index_any w v l s h)
 have HA:=Lib.hid (idxI_any l s)
 clear h
 go_enter Tryz.func200,Tryz.ntmps200
 go_wp2_with fail
 refine HI.out.mono ?_
 rintro e w' ⟨rfl,rfl⟩
 generalize idxI l s=q at *
 go_wp2_with fail
 go_ret
 exact⟨by rw[<-HA.out];rfl,rfl⟩
def Trm.cells (t:Trm):List Value:=[.string ⟨t.x.toArray⟩,.int .i64 t.k,.int .i64 t.n,.string ⟨t.t.toArray⟩]
def addN (o:List (List UInt8)) (x:List UInt8):List (List UInt8):=if x∈o then o else o++[x]
def addV (o:List (List UInt8)) (t:Trm):List (List UInt8):=if t.x=[] then o else addN o t.x
def atomVars (ts:List Trm):List (List UInt8):=ts.foldl addV []
def qVars (al:List Atm):List (List UInt8):=al.foldl (fun o a=>(atomVars a.ts).foldl addN o) []
theorem addN_len (o:List (List UInt8)) (x:List UInt8):(addN o x).length<=o.length+1:=by
 unfold addN
 split<;>simp
theorem addV_len (o:List (List UInt8)) (t:Trm):(addV o t).length<=o.length+1:=by
 unfold addV
 split
 ·omega
 ·exact addN_len _ _
theorem foldl_take_succ {α β:Type} (f:β->α->β) (b:β) (l:List α) (k:Nat) (x:α) (h:l[k]? = some x):(l.take (k+1)).foldl f b=f ((l.take k).foldl f b) x:=by
 rw[List.take_add_one,h]
 simp
theorem foldl_len {α:Type} (f:List (List UInt8)->α->List (List UInt8)) (hf:∀ o x,(f o x).length<=o.length+1) (b:List (List UInt8)) (l:List α):(l.foldl f b).length<=b.length+l.length:=by
 induction l generalizing b with
 | nil=>simp
 | cons a l ih =>
   have h1:=ih (f b a)
   have h2:=hf b a
   simp only[List.foldl_cons,List.length_cons]
   omega
def OwnS (B:Nat) (w:World) (v:Value) (l:List (List UInt8)):Prop:=w.ownsRow B 9 1 v l.length (l.map fun s=>.string ⟨s.toArray⟩)
theorem strC_flat (l:List (List UInt8)):(l.map strC).flatten=l.map fun s=>Value.string ⟨s.toArray⟩:=by
 induction l with
 | nil=>rfl
 | cons a l ih=>simp [strC,ih]
theorem OwnS.strs {B:Nat} {w:World} {v:Value} {l:List (List UInt8)} (h:OwnS B w v l) (hl:l.length<=8796093022208):StrsAt w v l:=by
 unfold OwnS at h
 rw[<-strC_flat] at h
 exact RowAt.ofOwn h (by simp) (by intro x hx;simp at hx;obtain⟨s,_,rfl⟩:=hx;rfl) (by simpa using hl)
theorem Tryz.infoStr:(Tryz.prog.info? 9).map (fun i=>(i.zero,i.size,i.bytes))=some (some (.string ⟨#[]⟩),1,16):=by kernel_rfl
theorem trm_len (ts:List Trm):∀ x∈ts.map Trm.cells,x.length=4:=by
 intro x hx
 simp at hx
 obtain⟨t,_,rfl⟩:=hx
 rfl
theorem ba_empty {x:List UInt8} (h:x≠[]):¬ ((⟨x.toArray⟩:ByteArray)=⟨#[]⟩):=fun e=>h (bytes_eq.1 e)
set_option maxHeartbeats 8000000 in
set_option maxRecDepth 100000 in
theorem atomVars_any (w:World) (rel:ByteArray) (tv:Value) (ts:List Trm) (h:RowAt w tv 4 (ts.map Trm.cells)) (hn:ts.length<=2932031007317) :
 Calls Tryz.prog 251 #[.agg #[.string rel,tv]] w fun e w'=>∃ v,e=.returned v/\OwnS w.heap.size w' v (atomVars ts)/\Below w.heap.size w w':=by
 obtain⟨i0,hi0,hz0,hz1,hz2⟩:=info_parts Tryz.infoStr
 obtain⟨ad,cap,rfl,hnc,hcm⟩:=h.form
 have hln:=h.len
 unfold maxLen at hcm
 simp only[List.length_map] at hnc hln ⊢
 have HR:=Lib.hid h
 generalize hN:ts.length=n at *
 have HN:=Lib.hid hN
 clear h hN
 go_enter Tryz.func251,Tryz.ntmps251
 go_wp2_with fail
 go_loopw [3,9] (fun v i wr=>∃ (k:Nat) (o:List (List UInt8)) (oa:Option Addr) (oc:Nat),k<=n/\i=.int .i64 k/\v=.slice oa o.length oc/\Hid (OwnS w.heap.size wr (.slice oa o.length oc) o)/\Hid (Below w.heap.size w wr)/\Hid (o=(ts.take k).foldl addV [])/\o.length<=k) (fun _ i _=>n - (intOf i).toNat)
 case atStart=>exact⟨0,[],none,0,Nat.zero_le _,rfl,rfl,Lib.hid (World.ownsRow_nil _ _ _ _),Lib.hid (balloc (Below.refl _ _) _),Lib.hid rfl,Nat.zero_le _⟩
 case round =>
  obtain⟨k,o,oa,oc,hk,rfl,rfl,OW,HB,HE,hol⟩:=hrel
  by_cases hlt:k<n
  ·obtain⟨t,ht⟩:∃ t,ts[k]? = some t:=⟨ts[k]'(by rw[HN.out];exact hlt),List.getElem?_eq_getElem (by rw[HN.out];exact hlt)⟩
   obtain⟨b,off,cap',hv,_,_,hbl,hce⟩:=(HR.out.keep HB.out).get (i:=k) (x:=t.cells) (by simp [ht])
   simp only[List.length_map,HN.out,Value.slice.injEq,true_and] at hv
   obtain⟨rfl,rfl⟩:=hv
   have q0:=hce 0 _ rfl
   have q1:=hce 1 _ rfl
   have q2:=hce 2 _ rfl
   have q3:=hce 3 _ rfl
   simp only[Nat.add_zero] at q0
   have hst:=foldl_take_succ addV [] ts k t ht
   rw[<-HE.out] at hst
   have HST:=Lib.hid hst
   have hbz:=HB.out.size
   clear hce ht hst
   by_cases hx:t.x=[]
   ·have hadd:addV o t=o:=by unfold addV;rw[if_pos hx]
    rw[hx] at q0
    have HA:=Lib.hid hadd
    clear hx hadd
    go_wp2_with fail
    go_roundw
    case rel=>exact⟨k+1,o,oa,oc,by omega,by go_num,rfl,Lib.hid ((Mod.ofBelow (F:=fun _=>False) (balloc (Below.refl _ _) _)).ownsRow OW.out (fun _ _ f=>f)),Lib.hid (balloc HB.out _),Lib.hid (by rw[HST.out,HA.out]),by omega⟩
    case measure=>simp [intOf];omega
   ·have hct:=contains_any (wr.alloc (.cells #[.string ⟨t.x.toArray⟩,.int .i64 t.k,.int .i64 t.n,.string ⟨t.t.toArray⟩] 113)) _ o t.x ((OW.out.strs (by omega)).keep (balloc (Below.refl _ _) _))
    have he:=ba_empty hx
    have he2:t.x.isEmpty=false:=by
     cases hxx:t.x with
     | nil=>exact absurd hxx hx
     | cons _ _=>rfl
    have he3:(!t.x.isEmpty)=true:=by rw[he2];rfl
    have HX:=Lib.hid hx
    by_cases hm:t.x∈o
    ·have hadd:addV o t=o:=by unfold addV addN;rw[if_neg hx,if_pos hm]
     rw[decide_eq_true hm] at hct
     have HA:=Lib.hid hadd
     have HC:=Lib.hid hct
     clear hx hadd hm hct
     go_wp2_with fail
     refine HC.out.mono ?_
     rintro e w2 ⟨rfl,rfl⟩
     go_wp2_with fail
     go_roundw
     case rel=>exact⟨k+1,o,oa,oc,by omega,by go_num,rfl,Lib.hid ((Mod.ofBelow (F:=fun _=>False) (balloc (Below.refl _ _) _)).ownsRow OW.out (fun _ _ f=>f)),Lib.hid (balloc HB.out _),Lib.hid (by rw[HST.out,HA.out]),by omega⟩
     case measure=>simp [intOf];omega
    ·have hadd:addV o t=o++[t.x]:=by unfold addV addN;rw[if_neg hx,if_neg hm]
     rw[decide_eq_false hm] at hct
     have HA:=Lib.hid hadd
     have HC:=Lib.hid hct
     have OW2:=Lib.hid (show World.ownsRow (wr.alloc (.cells #[.string ⟨t.x.toArray⟩,.int .i64 t.k,.int .i64 t.n,.string ⟨t.t.toArray⟩] 113)) w.heap.size 9 1 (.slice oa o.length oc) o.length _ from (Mod.ofBelow (F:=fun _=>False) (balloc (Below.refl _ _) _)).ownsRow OW.out (fun _ _ f=>f))
     clear hx hadd hm hct
     go_wp2_with fail
     refine HC.out.mono ?_
     rintro e w2 ⟨rfl,rfl⟩
     go_wp2_with (at_builtin;refine wpList_append_lies _ rfl (.tmp 23) (.tmp 26) 28 rfl w.heap.size 9 i0 (.string ⟨#[]⟩) 1 16 Tryz.underlying28 hi0 hz0 hz1 hz2 rfl (by decide) (.slice oa o.length oc) o.length _ rfl (OW2.out.alloc _) ⟨_,0,none⟩ 1 1 [.string ⟨t.x.toArray⟩] rfl rfl (World.news_of_block (blkNew1 _ _ _ _)) (by simp [Value.oneCell']) (by decide) ?c3 ?c5 ?c4 _ rfl ?_)
     case c3=>unfold maxLen;omega
     case c5=>omega
     case c4=>simp;omega
     intro g cap1 w3 hown2 hgrow2 hat2 hlt2
     have hb3:Below w.heap.size w w3:=(balloc (balloc HB.out _) _).grown hgrow2 (by simp;omega) (fun q hq=>(OW2.out.lt q hq).1)
     have HO:=Lib.hid hown2
     have HB3:=Lib.hid hb3
     clear hown2 hgrow2 hat2 hlt2 hb3
     go_wp2_with fail
     go_roundw
     case rel =>
      refine⟨k+1,o++[t.x],some ⟨g,0,none⟩,cap1,by omega,by go_num,by simp,Lib.hid ?_,HB3,Lib.hid (by rw[HST.out,HA.out]),by simp;omega⟩
      unfold OwnS
      have:=HO.out
      simpa using this
     case measure=>simp [intOf];omega
  ·obtain rfl:k=n:=by omega
   go_wp2_with fail
   go_ret
   refine⟨_,rfl,?_,HB.out⟩
   have he:=HE.out
   rw[List.take_of_length_le (by rw[HN.out];exact Nat.le_refl _)] at he
   unfold atomVars
   rw[<-he]
   exact OW.out
def AtmC (w:World) (row:List Value) (a:Atm):Prop:=∃ tv,row=[.string ⟨a.rel.toArray⟩,tv]/\RowAt w tv 4 (a.ts.map Trm.cells)/\a.ts.length<=2932031007317
def AtomsAt (w:World) (v:Value) (al:List Atm):Prop:=∃ rows,RowAt w v 2 rows/\All2 (AtmC w) rows al
theorem AtmC.keep {w w':World} {row:List Value} {a:Atm} (h:AtmC w row a) (hb:Below w.heap.size w w'):AtmC w' row a:=by
 obtain⟨tv,rfl,h2,h3⟩:=h
 exact⟨tv,rfl,h2.keep hb,h3⟩
theorem AtomsAt.keep {w w':World} {v:Value} {al:List Atm} (h:AtomsAt w v al) (hb:Below w.heap.size w w'):AtomsAt w' v al:=by
 obtain⟨rows,h1,h2⟩:=h
 exact⟨rows,h1.keep hb,h2.mono fun b a hh=>hh.keep hb⟩
theorem AtomsAt.form {w:World} {v:Value} {al:List Atm} (h:AtomsAt w v al):∃ (ad:Option Addr) (cap:Nat),v=.slice ad al.length cap/\al.length<=cap/\cap<=maxLen:=by
 obtain⟨rows,h1,h2⟩:=h
 obtain⟨ad,cap,hv,h3,h4⟩:=h1.form
 rw[h2.length] at hv h3
 exact⟨ad,cap,hv,h3,h4⟩
theorem AtomsAt.get {w:World} {v:Value} {al:List Atm} (h:AtomsAt w v al) {i:Nat} {a:Atm} (hi:al[i]? = some a):∃ (b off cap:Nat) (tv:Value),v=.slice (some ⟨b,off,none⟩) al.length cap/\al.length<=cap/\cap<=maxLen/\b<w.heap.size /\
 w.cell? ⟨b,off+i * 2,none⟩=some (.string ⟨a.rel.toArray⟩)/\w.cell? ⟨b,off+i * 2+1,none⟩=some tv/\RowAt w tv 4 (a.ts.map Trm.cells)/\a.ts.length<=2932031007317:=by
 obtain⟨rows,h1,h2⟩:=h
 obtain⟨row,hr,tv,rfl,h3,h4⟩:=h2.get hi
 obtain⟨b,off,cap,hv,h5,h6,h7,h8⟩:=h1.get hr
 rw[h2.length] at hv h5
 exact⟨b,off,cap,tv,hv,h5,h6,h7,h8 0 _ rfl,h8 1 _ rfl,h3,h4⟩
def tsum (al:List Atm):Nat:=(al.map fun a=>a.ts.length).sum
theorem tsum_take_succ {al:List Atm} {k:Nat} {a:Atm} (h:al[k]? = some a):tsum (al.take (k+1))=tsum (al.take k)+a.ts.length:=by
 unfold tsum
 rw[List.take_add_one,h]
 simp
theorem tsum_take_le:∀ (al:List Atm) (k:Nat),tsum (al.take k)<=tsum al
 | [],k=>by simp [tsum]
 | a::al,0=>by simp [tsum]
 | a::al,k+1=>by
   have:=tsum_take_le al k
   simp only[tsum,List.take_succ_cons,List.map_cons,List.sum_cons] at this ⊢
   omega
theorem atomVars_len (ts:List Trm):(atomVars ts).length<=ts.length:=by
 have:=foldl_len addV addV_len [] ts
 simpa [atomVars] using this
set_option maxHeartbeats 16000000 in
set_option maxRecDepth 100000 in
theorem vars_any (w:World) (name:ByteArray) (hv av:Value) (al:List Atm) (h:AtomsAt w av al) (hn:al.length<=1048576) (hs:tsum al<=1048576) :
 Calls Tryz.prog 201 #[.agg #[.string name,hv,av]] w fun e w'=>∃ v,e=.returned v/\OwnS w.heap.size w' v (qVars al)/\Below w.heap.size w w':=by
 obtain⟨i0,hi0,hz0,hz1,hz2⟩:=info_parts Tryz.infoStr
 obtain⟨ad,cap,rfl,hnc,hcm⟩:=h.form
 unfold maxLen at hcm
 have HR:=Lib.hid h
 have HS:=Lib.hid hs
 generalize hN:al.length=n at *
 have HN:=Lib.hid hN
 clear h hN hs
 go_enter Tryz.func201,Tryz.ntmps201
 go_wp2_with fail
 go_loopw [3,11] (fun v i wr=>∃ (k:Nat) (o:List (List UInt8)) (oa:Option Addr) (oc:Nat),k<=n/\i=.int .i64 k/\v=.slice oa o.length oc/\Hid (OwnS w.heap.size wr (.slice oa o.length oc) o)/\Hid (Below w.heap.size w wr)/\Hid (o=(al.take k).foldl (fun o a=>(atomVars a.ts).foldl addN o) [])/\o.length<=tsum (al.take k)) (fun _ i _=>n - (intOf i).toNat)
 case atStart=>exact⟨0,[],none,0,Nat.zero_le _,rfl,rfl,Lib.hid (World.ownsRow_nil _ _ _ _),Lib.hid (balloc (Below.refl _ _) _),Lib.hid rfl,Nat.zero_le _⟩
 case round =>
  obtain⟨k,o,oa,oc,hk,rfl,rfl,OW,HB,HE,hol⟩:=hrel
  obtain⟨wo,rfl⟩:∃ wo:World,wo=wr:=⟨_,rfl⟩
  by_cases hlt:k<n
  ·obtain⟨a,ha⟩:∃ a,al[k]? = some a:=⟨al[k]'(by rw[HN.out];exact hlt),List.getElem?_eq_getElem (by rw[HN.out];exact hlt)⟩
   obtain⟨b,off,cap',tv,hv',_,_,hbl,q0,q1,hrow,hal⟩:=(HR.out.keep HB.out).get ha
   rw[HN.out] at hv'
   simp only[Value.slice.injEq,true_and] at hv'
   obtain⟨rfl,rfl⟩:=hv'
   obtain⟨ta,tc,rfl,_,_⟩:=hrow.form
   have hts:=tsum_take_succ ha
   have htl:=tsum_take_le al (k+1)
   have hss:=HS.out
   have hst:=foldl_take_succ (fun o (a:Atm)=>(atomVars a.ts).foldl addN o) [] al k a ha
   rw[<-HE.out] at hst
   have hvl:=atomVars_len a.ts
   have hbz:=HB.out.size
   have hav:=atomVars_any (wo.alloc (.cells #[.string ⟨a.rel.toArray⟩,.slice ta (a.ts.map Trm.cells).length tc] 105)) ⟨a.rel.toArray⟩ _ a.ts (hrow.keep (balloc (Below.refl _ _) _)) hal
   have hal2:a.ts.length<=1048576:=by omega
   have hol2:o.length+a.ts.length<=1048576:=by omega
   have hol3:o.length+a.ts.length<=tsum (al.take (k+1)):=by omega
   have HST:=Lib.hid hst
   have HAV:=Lib.hid hav
   have HO3:=Lib.hid hol3
   generalize atomVars a.ts=L at *
   generalize a.ts.length=m at *
   generalize (a.ts.map Trm.cells).length=m' at *
   clear ha hts htl hss hst hrow hal hav hol3 hol
   go_wp2_with fail
   refine HAV.out.mono ?_
   rintro e w1 ⟨v,rfl,hown,hb1⟩
   have hst1:StrsAt w1 v L:=hown.strs (by omega)
   obtain⟨la,lc,rfl,hlc,hlm⟩:=hst1.form
   unfold maxLen at hlm
   have hb01:Below w.heap.size w w1:=(balloc HB.out _).trans (hb1.mono (by simp;omega))
   have how1:OwnS w.heap.size w1 (.slice oa o.length oc) o:=(Mod.ofBelow (F:=fun _=>False) hb1).ownsRow ((Mod.ofBelow (F:=fun _=>False) (balloc (Below.refl _ wo) _)).ownsRow OW.out (fun _ _ f=>f)) (fun _ _ f=>f)
   have hfar:∀ q,Value.ownBlock (.slice oa o.length oc)=some q->∀ q',Value.ownBlock (.slice la L.length lc)=some q'->q≠q':=by
    intro q hq q' hq'
    have h1:=(OW.out.lt q hq).2
    have h2:=(hown.lt q' hq').1
    simp at h2
    omega
   have HOW:=Lib.hid hown
   have HOW1:=Lib.hid how1
   have HB01:=Lib.hid hb01
   have HF:=Lib.hid hfar
   have hw1z:=hb1.size
   simp at hw1z
   clear hown hst1 hb01 how1 hfar hb1
   go_wp2_with fail
   go_loopw [3,18] (fun v i wr=>∃ (j:Nat) (p:List (List UInt8)) (pa:Option Addr) (pc:Nat),j<=L.length/\i=.int .i64 j/\v=.slice pa p.length pc/\Hid (OwnS w.heap.size wr (.slice pa p.length pc) p)/\Hid (OwnS w.heap.size wr (.slice la L.length lc) L)/\Hid (∀ q,Value.ownBlock (.slice pa p.length pc)=some q->∀ q',Value.ownBlock (.slice la L.length lc)=some q'->q≠q')/\Hid (Below w.heap.size w wr)/\Hid (p=(L.take j).foldl addN o)/\p.length<=o.length+j) (fun _ i _=>L.length - (intOf i).toNat)
   case atStart=>exact⟨0,o,oa,oc,Nat.zero_le _,rfl,rfl,HOW1,Lib.hid (World.ownsRow.low HOW.out (by simp;omega)),HF,HB01,Lib.hid rfl,Nat.le_refl _⟩
   case round =>
    obtain⟨j,p,pa,pc,hj,rfl,rfl,POW,LOW,PF,PB,PE,hpl⟩:=hrel
    by_cases hjl:j<L.length
    ·obtain⟨s,hs⟩:∃ s,L[j]? = some s:=⟨L[j],List.getElem?_eq_getElem hjl⟩
     obtain⟨lb,lo,lc',hlv,_,_,hlbl,hsc⟩:=(LOW.out.strs (by omega)).get hs
     simp only[Value.slice.injEq,true_and] at hlv
     obtain⟨rfl,rfl⟩:=hlv
     have hsst:=foldl_take_succ addN o L j s hs
     rw[<-PE.out] at hsst
     have HSST:=Lib.hid hsst
     have hct:=contains_any wr _ p s (POW.out.strs (by omega))
     have hzr:=PB.out.size
     clear hs hsst
     by_cases hm:s∈p
     ·have hadd:addN p s=p:=by unfold addN;rw[if_pos hm]
      rw[decide_eq_true hm] at hct
      have HA:=Lib.hid hadd
      have HC:=Lib.hid hct
      clear hadd hm hct
      go_wp2_with fail
      refine HC.out.mono ?_
      rintro e w2 ⟨rfl,rfl⟩
      go_wp2_with fail
      go_roundw
      case rel=>exact⟨j+1,p,pa,pc,by omega,by go_num,rfl,POW,LOW,PF,PB,Lib.hid (by rw[HSST.out,HA.out]),by omega⟩
      case measure=>simp [intOf];omega
     ·have hadd:addN p s=p++[s]:=by unfold addN;rw[if_neg hm]
      rw[decide_eq_false hm] at hct
      have HA:=Lib.hid hadd
      have HC:=Lib.hid hct
      have POX:=Lib.hid (show wr.ownsRow w.heap.size 9 1 (.slice pa p.length pc) p.length (p.map fun s=>.string ⟨s.toArray⟩) from POW.out)
      clear hadd hm hct
      go_wp2_with fail
      refine HC.out.mono ?_
      rintro e w2 ⟨rfl,rfl⟩
      go_wp2_with (at_builtin;refine wpList_append_lies _ rfl (.tmp 26) (.tmp 28) 28 rfl w.heap.size 9 i0 (.string ⟨#[]⟩) 1 16 Tryz.underlying28 hi0 hz0 hz1 hz2 rfl (by decide) (.slice pa p.length pc) p.length _ rfl (POX.out.alloc _) ⟨_,0,none⟩ 1 1 [.string ⟨s.toArray⟩] rfl rfl (World.news_of_block (Blk.new _ _ _)) (by simp [Value.oneCell']) (by decide) ?c3 ?c5 ?c4 _ rfl ?_)
      case c3=>unfold maxLen;omega
      case c5=>omega
      case c4=>simp;omega
      intro g cap1 w3 hown2 hgrow2 hat2 hlt2
      have hb3:Below w.heap.size w w3:=(balloc PB.out _).grown hgrow2 (by simp;omega) (fun q hq=>(POW.out.lt q hq).1)
      have hL3:OwnS w.heap.size w3 (.slice (some ⟨lb,lo,none⟩) L.length lc) L:=World.ownsRow.kept (World.ownsRow.alloc LOW.out _) hgrow2 (.inr (fun e=>by
       cases hp:Value.ownBlock (.slice pa p.length pc) with
       | none=>rw[hp] at e;simp [Value.ownBlock] at e
       | some q=>exact PF.out q hp q (e.trans hp) rfl))
      have hF3:∀ q,Value.ownBlock (.slice (some ⟨g,0,none⟩) (p.length+1) cap1)=some q->∀ q',Value.ownBlock (.slice (some ⟨lb,lo,none⟩) L.length lc)=some q'->q≠q':=by
       intro q hq q' hq'
       simp [Value.ownBlock] at hq
       subst hq
       rcases hat2 with h | h
       ·exact PF.out _ h q' hq'
       ·have:=(LOW.out.lt q' hq').2
        omega
      have HO:=Lib.hid hown2
      have HB3:=Lib.hid hb3
      have HL3:=Lib.hid hL3
      have HF3:=Lib.hid hF3
      clear hown2 hgrow2 hat2 hlt2 hb3 hL3 hF3
      go_wp2_with fail
      go_roundw
      case rel =>
       refine⟨j+1,p++[s],some ⟨g,0,none⟩,cap1,by omega,by go_num,by simp,Lib.hid ?_,HL3,Lib.hid (by simpa using HF3.out),HB3,Lib.hid (by rw[HSST.out,HA.out]),by simp;omega⟩
       unfold OwnS
       have:=HO.out
       simpa using this
      case measure=>simp [intOf];omega
    ·obtain rfl:j=L.length:=by omega
     have pe:=PE.out
     rw[List.take_length] at pe
     have PE2:=Lib.hid pe
     clear pe
     go_wp2_with fail
     go_roundw
     case rel =>
      refine⟨k+1,p,pa,pc,by omega,by go_num,rfl,POW,PB,Lib.hid (by rw[HST.out];exact PE2.out),by have:=HO3.out;omega⟩
     case measure=>simp [intOf];omega
  ·obtain rfl:k=n:=by omega
   go_wp2_with fail
   go_ret
   refine⟨_,rfl,?_,HB.out⟩
   have he:=HE.out
   rw[List.take_of_length_le (by rw[HN.out];exact Nat.le_refl _)] at he
   unfold qVars
   rw[<-he]
   exact OW.out
set_option maxHeartbeats 4000000 in
set_option maxRecDepth 100000 in
theorem indexFunc_Str (g:Nat) (lb:Array Value) (eg:∀ args w,(callFunc g args).run Tryz.prog w=.ok (.enter g args) w) (p:List Value->Bool) (w:World) (v:Value) (xs:List (List Value)) (h:RowAt w v 1 xs) (hl:∀ x∈xs,x.length=1)
 (hf:∀ (W:World) (x:List Value),Below w.heap.size w W->x∈xs->Calls Tryz.prog g (#[x[0]!]++lb) W fun e W'=>e=.returned (.bool (p x))/\Below W.heap.size W W') :
 Calls Tryz.prog 202 #[v,.func (.func g) #[] lb] w fun e w'=>e=.returned (.int .i64 (idxP p xs))/\Below w.heap.size w w':=by
 obtain⟨ad,cap,rfl,hnc,hcm⟩:=h.form
 have hln:=h.len
 have HR:=Lib.hid h
 have HL:=Lib.hid hl
 have HF:=Lib.hid hf
 unfold maxLen at hcm
 generalize hn:xs.length=n at *
 have HN:=Lib.hid hn
 clear h hl hf hn
 go_enter Tryz.func202,Tryz.ntmps202
 go_wp2_with fail
 go_loopw [5,8] (fun _ i wr=>∃ k:Nat,k<=n/\i=.int .i64 k/\Hid (Below w.heap.size w wr)/\Hid (∀ x∈xs.take k,p x=false)) (fun _ i _=>n - (intOf i).toNat)
 case atStart=>exact⟨0,Nat.zero_le _,rfl,Lib.hid (Below.refl _ _),Lib.hid (by simp)⟩
 case round =>
  obtain⟨k,hk,rfl,HB,HP⟩:=hrel
  by_cases hlt:k<n
  ·obtain⟨x,hx⟩:∃ x,xs[k]? = some x:=⟨xs[k]'(by rw[HN.out];exact hlt),List.getElem?_eq_getElem (by rw[HN.out];exact hlt)⟩
   have hm:x∈xs:=List.mem_of_getElem? hx
   obtain⟨b,off,cap',hv,_,_,hbl,hce⟩:=(HR.out.keep HB.out).get hx
   rw[HN.out] at hv
   simp only[Value.slice.injEq,true_and] at hv
   obtain⟨rfl,rfl⟩:=hv
   obtain⟨e0,rfl⟩:=len1 (HL.out x hm)
   have q0:=hce 0 e0 rfl
   simp only[Nat.mul_one,Nat.add_zero] at q0
   have hcall:=HF.out wr _ HB.out hm
   have HX:=Lib.hid hx
   clear hce hm hx
   cases hq:p [e0] with
   | true =>
     rw[hq] at hcall
     have HC:=Lib.hid hcall
     have HQ:=Lib.hid hq
     clear hcall hq
     go_wp2_with fail
     refine HC.out.mono ?_
     rintro e w' ⟨rfl,hb'⟩
     have HB':=Lib.hid hb'
     clear hb'
     go_wp2_with fail
     go_ret
     refine⟨?_,HB.out.trans (HB'.out.mono HB.out.size)⟩
     rw[idxP_hit HX.out HQ.out HP.out]
     rfl
   | false =>
     rw[hq] at hcall
     have HC:=Lib.hid hcall
     have HQ:=Lib.hid hq
     clear hcall hq
     go_wp2_with fail
     refine HC.out.mono ?_
     rintro e w' ⟨rfl,hb'⟩
     have HB':=Lib.hid hb'
     clear hb'
     go_wp2_with fail
     go_roundw
     case rel =>
      refine⟨k+1,by omega,by go_num,Lib.hid (HB.out.trans (HB'.out.mono HB.out.size)),Lib.hid ?_⟩
      rw[List.take_add_one,HX.out]
      intro y hy
      simp at hy
      rcases hy with hy | rfl
      ·exact HP.out y hy
      ·exact HQ.out
     case measure=>simp [intOf];omega
  ·obtain rfl:k=n:=by omega
   go_wp2_with fail
   go_ret
   refine⟨?_,HB.out⟩
   have hp:=HP.out
   rw[List.take_of_length_le (by rw[HN.out];exact Nat.le_refl _)] at hp
   rw[idxP_miss hp]
   rfl
def dupG (seen:List (List UInt8)):List (List UInt8)->Nat->Int
 | [],_ => -1
 | s::r,i=>if s∈seen then i else dupG (seen++[s]) r (i+1)
def dupI (l:List (List UInt8)):Int:=dupG [] l 0
theorem dup_hit {l:List (List UInt8)} {k:Nat} {s:List UInt8} (h:l[k]? = some s) (hm:s∈l.take k):dupG (l.take k) (l.drop k) k=k:=by
 rw[List.drop_eq_getElem_cons (List.getElem?_eq_some_iff.1 h).1,(List.getElem?_eq_some_iff.1 h).2]
 unfold dupG
 rw[if_pos hm]
theorem dup_step {l:List (List UInt8)} {k:Nat} {s:List UInt8} (h:l[k]? = some s) (hm:s ∉ l.take k):dupG (l.take k) (l.drop k) k=dupG (l.take (k+1)) (l.drop (k+1)) (k+1):=by
 rw[List.drop_eq_getElem_cons (List.getElem?_eq_some_iff.1 h).1,(List.getElem?_eq_some_iff.1 h).2]
 conv=>lhs;unfold dupG
 rw[if_neg hm,List.take_add_one,h]
 rfl
set_option maxHeartbeats 4000000 in
set_option maxRecDepth 100000 in
theorem doubled_any (w:World) (v:Value) (l:List (List UInt8)) (h:StrsAt w v l) :
 Calls Tryz.prog 140 #[v] w fun e w'=>e=.returned (.int .i64 (dupI l))/\w=w':=by
 obtain⟨ad,cap,rfl,hnc,hcm⟩:=h.form
 have hln:=h.len
 have HR:=Lib.hid h
 unfold maxLen at hcm
 have hres:dupG (l.take 0) (l.drop 0) 0=dupI l:=rfl
 generalize dupI l=RES at *
 have HRES:=Lib.hid hres
 generalize hn:l.length=n at *
 have HN:=Lib.hid hn
 clear h hn hres
 go_enter Tryz.func140,Tryz.ntmps140
 go_wp2_with fail
 go_loop [3,4,7] (fun _ _ i=>∃ k:Nat,k<=n/\i=.int .i64 k/\Hid (dupG (l.take k) (l.drop k) k=RES)) (fun _ _ i=>n - (intOf i).toNat)
 case atStart=>exact⟨0,Nat.zero_le _,rfl,HRES⟩
 case round =>
  obtain⟨k,hk,rfl,HP⟩:=hrel
  by_cases hlt:k<n
  ·obtain⟨x,hx⟩:∃ x,l[k]? = some x:=⟨l[k]'(by rw[HN.out];exact hlt),List.getElem?_eq_getElem (by rw[HN.out];exact hlt)⟩
   obtain⟨b,off,cap',hv,_,_,hbl,hce⟩:=HR.out.get hx
   have htk:StrsAt w (.slice ad k cap) (l.take k):=HR.out.take (by rw[HN.out];omega) (by rw[HN.out])
   rw[HN.out] at hv
   simp only[Value.slice.injEq,true_and] at hv
   obtain⟨rfl,rfl⟩:=hv
   have hct:=contains_any w _ _ x htk
   have hkc:k<=cap:=by omega
   have hp:=HP.out
   by_cases hq:x∈l.take k
   ·rw[decide_eq_true hq] at hct
    rw[dup_hit hx hq] at hp
    subst hp
    have HC:=Lib.hid hct
    clear hx htk hct hq
    go_wp2_with fail
    refine HC.out.mono ?_
    rintro e w2 ⟨rfl,rfl⟩
    go_wp2_with fail
    go_ret
    exact⟨rfl,rfl⟩
   ·rw[decide_eq_false hq] at hct
    rw[dup_step hx hq] at hp
    have HC:=Lib.hid hct
    have HP2:=Lib.hid hp
    clear hx htk hct hq hp
    go_wp2_with fail
    refine HC.out.mono ?_
    rintro e w2 ⟨rfl,rfl⟩
    go_wp2_with fail
    go_round
    case rel=>exact⟨k+1,by omega,by go_num,HP2⟩
    case measure=>simp [intOf];omega
  ·obtain rfl:k=n:=by omega
   have hp:=HP.out
   rw[List.drop_of_length_le (by rw[HN.out];exact Nat.le_refl _)] at hp
   unfold dupG at hp
   subst hp
   go_wp2_with fail
   go_ret
   exact⟨rfl,rfl⟩
def lackI (vs:List (List UInt8)) (l:List (List UInt8)):Int:=idxP (fun x=>match x with
 | [.string b] => !decide (b.data.toList∈vs)
 | _=>false) (l.map strC)
set_option maxHeartbeats 4000000 in
set_option maxRecDepth 100000 in
theorem unsafeClo_any (w:World) (b:Nat) (v:Value) (vs:List (List UInt8)) (s:List UInt8) (hc:w.cell? ⟨b,0,none⟩=some v) (hv:StrsAt w v vs) :
 Calls Tryz.prog 203 #[.string ⟨s.toArray⟩,.pointer (some ⟨b,0,none⟩)] w fun e w'=>e=.returned (.bool (!decide (s∈vs)))/\w=w':=by
 have HC:=Lib.hid (contains_any w v vs s hv)
 clear hv
 go_enter Tryz.func203,Tryz.ntmps203
 go_wp2_with fail
 refine HC.out.mono ?_
 rintro e w2 ⟨rfl,rfl⟩
 have hnot:∀ (x:Bool) (w:World),(Op.unary .not (.bool x)).run Tryz.prog w=.ok (.bool (!x)) w:=fun _ _=>rfl
 have hq:∃ q,q=decide (s∈vs):=⟨_,rfl⟩
 obtain⟨q,hq⟩:=hq
 rw[<-hq]
 have HQ:=Lib.hid hq
 clear hq
 go_wp2_with fail
 go_ret
 exact⟨by rw[HQ.out];rfl,rfl⟩
set_option maxHeartbeats 8000000 in
set_option maxRecDepth 100000 in
theorem unsafeVar_any (w:World) (name:ByteArray) (hv av:Value) (hd:List (List UInt8)) (al:List Atm) (hh:StrsAt w hv hd) (h:AtomsAt w av al) (hn:al.length<=1048576) (hs:tsum al<=1048576) :
 Calls Tryz.prog 141 #[.agg #[.string name,hv,av]] w fun e w'=>e=.returned (.int .i64 (lackI (qVars al) hd))/\Below w.heap.size w w':=by
 have hmf:∀ (fn:Fn) (first cap:Array Value) (w:World),(Instr.makeFunc fn first cap).run Tryz.prog w=.ok (.func fn first cap) w:=fun _ _ _ _=>rfl
 have hb0:Below w.heap.size w (w.alloc (.cells #[.string name,hv,av] 50)):=balloc (Below.refl _ _) _
 have hV:=vars_any (w.alloc (.cells #[.string name,hv,av] 50)) name hv av al (h.keep hb0) hn hs
 have HV:=Lib.hid hV
 have HB0:=Lib.hid hb0
 have HH:=Lib.hid hh
 have qb:=Blk.new w 50 #[.string name,hv,av]
 have QB:=Lib.hid qb
 have hql:(qVars al).length<=8796093022208:=by
  have:∀ (al:List Atm) (o:List (List UInt8)),(al.foldl (fun o a=>(atomVars a.ts).foldl addN o) o).length<=o.length+tsum al:=by
   intro al
   induction al with
   | nil=>intro o;simp
   | cons a al ih =>
     intro o
     have h1:=ih ((atomVars a.ts).foldl addN o)
     have h2:=foldl_len addN addN_len o (atomVars a.ts)
     have h3:=atomVars_len a.ts
     simp only[List.foldl_cons,tsum,List.map_cons,List.sum_cons] at h1 ⊢
     omega
  have:=this al []
  simp only[List.length_nil,Nat.zero_add] at this
  unfold qVars
  omega
 have HQL:=Lib.hid hql
 clear h hV hb0 hh qb hql
 unfold lackI
 generalize qVars al=vs at *
 go_enter Tryz.func141,Tryz.ntmps141
 go_wp2_with fail
 refine HV.out.mono ?_
 rintro e w1 ⟨v,rfl,hown,hb1⟩
 obtain⟨va,vc,rfl⟩:=own_sl hown
 have qb1:=QB.out.below hb1 (by simp)
 have q0:=qb1.cell 0
 have q1:=qb1.cell 1
 have q2:=qb1.cell 2
 simp only[List.getElem?_toArray,List.getElem?_cons_zero,List.getElem?_cons_succ] at q0 q1 q2
 have hql:=qb1.lt
 have hb01:Below w.heap.size w w1:=HB0.out.trans (hb1.mono (by simp))
 have hst:=(hown.strs HQL.out).keep (balloc (Below.refl _ _) (.cells #[.slice va vs.length vc] 28))
 have vb:=Blk.new w1 28 #[.slice va vs.length vc]
 have hI:=indexFunc_Str 203 #[.pointer (some ⟨w1.heap.size,0,none⟩)] (enters_of Tryz.func203 (by kernel_rfl) rfl) (fun x=>match x with
  | [.string b] => !decide (b.data.toList∈vs)
  | _=>false) (w1.alloc (.cells #[.slice va vs.length vc] 28)) hv (hd.map strC) (HH.out.keep (balloc hb01 _)) (by intro x hx;simp at hx;obtain⟨s,_,rfl⟩:=hx;rfl) (by
    intro W x hW hx
    simp at hx
    obtain⟨s,_,rfl⟩:=hx
    refine (unsafeClo_any W w1.heap.size _ vs s ((vb.below hW (by simp)).cell 0) (hst.keep hW)).mono ?_
    rintro e W' ⟨rfl,rfl⟩
    exact⟨rfl,Below.refl _ _⟩)
 have HI:=Lib.hid hI
 have HB01:=Lib.hid hb01
 clear qb1 hown hb1 hst vb hI hb01
 go_wp2_with fail
 refine HI.out.mono ?_
 rintro e w2 ⟨rfl,hb2⟩
 have HB2:=Lib.hid hb2
 clear hb2
 go_wp2_with fail
 go_ret
 exact⟨rfl,(balloc HB01.out _).trans (HB2.out.mono (by have:=HB01.out.size;simp;omega))⟩
abbrev AtP:=(List UInt8 × Int) × List (Trm × Int)
def qryOf (n:List UInt8 × Int) (hs:List (List UInt8 × Int)) (l:List AtP):Qry:=⟨n.1,hs.map (·.1),l.map fun a=>⟨a.1.1,a.2.map (·.1)⟩⟩
end Go.Proofs.YtgopfpjinohncaaGreatDoor
