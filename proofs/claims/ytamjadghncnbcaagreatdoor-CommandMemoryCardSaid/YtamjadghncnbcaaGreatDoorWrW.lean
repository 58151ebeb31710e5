/- What may be written over: a row of a call's own. For ChangeMemory: changes that may be written over. For CommandMemory: what may be written over (the atoms' part turned from QueryMemory's), and a command kept while other blocks are written. -/
import Derived.Test.YtamjadghncnbcaaGreatDoorGaW
import Derived.Test.YtamjadghncnbcaaGreatDoorGbW
import Derived.Test.YtamjadghncnbcaaGreatDoorBcW
import Derived.Test.YtamjadghncnbcaaGreatDoorDwW
import Derived.Deep.MidRow
namespace Go.Proofs.YtamjadghncnbcaaGreatDoor
open Go.RowKit
set_option linter.unusedVariables false
theorem mod_setCellsQ {F:Nat->Prop} {b:Nat} (hb:F b):∀ (vs:List Value) (o:Nat) (w:World),Mod F w (w.setCells b o vs)
 | [],_,w=>Mod.refl _ w
 | v::r,o,w=>by
   rw[World.setCells]
   exact ((Mod.refl F w).setCell (p:=⟨b,o,none⟩) (fun _=>hb) v).trans (mod_setCellsQ hb r (o+1) _) (fun _ _ h=>h)
theorem size_setCells (b o:Nat) (vs:List Value) (w:World):w.heap.size<=(w.setCells b o vs).heap.size:=(mod_setCellsQ (F:=fun _=>True) trivial vs o w).size
def Wrt (F:Nat->Prop) (w:World) (sz:Nat) (a:Option Addr) (n:Nat):Prop:=n=0∨∃ g,a=some ⟨g,0,none⟩/\F g/\g<w.heap.size/\w.there g 0 (n * sz)
theorem there_ofOwn {w:World} {base:Nat} {e:TypeId} {sz g n cap:Nat} {xs:List Value} (h:w.ownsRow base e sz (.slice (some ⟨g,0,none⟩) n cap) n xs) (hx:xs.length=n * sz):w.there g 0 (n * sz):=by
 intro j hj
 have h1:=h.cellAt j (by omega)
 have h2:=h.frozenAt j
 rw[Nat.zero_add]
 refine⟨?_,h2⟩
 rw[h1,List.getElem?_eq_getElem (by omega)]
 rfl
theorem Wrt.ofOwn {F:Nat->Prop} {w:World} {base:Nat} {e:TypeId} {sz n cap:Nat} {a:Option Addr} {xs:List Value} (h:w.ownsRow base e sz (.slice a n cap) n xs) (hx:xs.length=n * sz) (hF:∀ g,a=some ⟨g,0,none⟩->g<w.heap.size->base<=g->F g):Wrt F w sz a n:=by
 rcases Nat.eq_zero_or_pos n with h0 | h0
 ·exact .inl h0
 ·obtain⟨g,c,hv,h1,h2⟩:=h.form h0
  injection hv with hv _ _
  subst hv
  exact .inr ⟨g,rfl,hF g rfl h2 h1,h2,there_ofOwn h hx⟩
theorem Wrt.mod {F G:Nat->Prop} {w w':World} {sz n:Nat} {a:Option Addr} (h:Wrt F w sz a n) (hm:Mod G w w') (hn:∀ g,F g->¬ G g):Wrt F w' sz a n:=by
 rcases h with h | ⟨g,rfl,hF,hl,ht⟩
 ·exact .inl h
 ·refine .inr ⟨g,rfl,hF,Nat.lt_of_lt_of_le hl hm.size,fun j hj=>?_⟩
  have hb:=hm.block g hl (hn g hF)
  obtain⟨h1,h2⟩:=ht j hj
  refine⟨?_,?_⟩
  ·rw[World.cell?_of_block hb];exact h1
  ·rw[World.frozen?_of_block hb];exact h2
theorem Wrt.set {F:Nat->Prop} {w:World} {sz n:Nat} {a:Option Addr} (h:Wrt F w sz a n) (b o:Nat) (vs:List Value):Wrt F (w.setCells b o vs) sz a n:=by
 rcases h with h | ⟨g,rfl,hF,hl,ht⟩
 ·exact .inl h
 ·refine .inr ⟨g,rfl,hF,?_,World.there_setCells ht b o vs⟩
  exact Nat.lt_of_lt_of_le hl (size_setCells _ _ _ _)
theorem Blk.modQ {G:Nat->Prop} {w w':World} {g:Nat} {t:TypeId} {cs:Array Value} (h:Blk w g t cs) (hm:Mod G w w') (hn:¬ G g):Blk w' g t cs:=by
 have h1:=hm.block g h.lt hn
 show w'.heap[g]? = _
 rw[h1]
 exact h
theorem Wrt.at_ {F:Nat->Prop} {w:World} {sz n:Nat} {a:Option Addr} (h:Wrt F w sz a n) (h0:0<n):∃ g,a=some ⟨g,0,none⟩/\F g/\g<w.heap.size/\∀ j,j<n * sz->(∃ u,w.cell? ⟨g,j,none⟩=some u)/\w.frozen? ⟨g,j,none⟩=false:=by
 rcases h with h | ⟨g,rfl,hF,hl,ht⟩
 ·omega
 ·refine⟨g,rfl,hF,hl,fun j hj=>?_⟩
  obtain⟨h1,h2⟩:=ht j hj
  rw[Nat.zero_add] at h1 h2
  exact⟨Option.isSome_iff_exists.1 h1,h2⟩
def CgW (F:Nat->Prop) (w:World) (a:Option Addr) (n:Nat) (T:List (Option Addr × Nat × Nat)):Prop :=
 T.length=n/\(n=0∨∃ g,a=some ⟨g,0,none⟩/\F g/\g<w.heap.size/\w.there g 0 (n * 3)/\∀ (i:Nat) (t:Option Addr) (k c:Nat),T[i]? = some (t,k,c) ->
  w.cell? ⟨g,i * 3+2,none⟩=some (.slice t k c)/\k<=4398046511104/\Wrt (fun q=>F q/\q≠g) w 3 t k)
theorem CgW.setOther {F:Nat->Prop} {w:World} {a:Option Addr} {n:Nat} {T:List (Option Addr × Nat × Nat)} (h:CgW F w a n T) {b:Nat} (hb:a≠some ⟨b,0,none⟩) (o:Nat) (vs:List Value):CgW F (w.setCells b o vs) a n T:=by
 refine⟨h.1,h.2.imp id ?_⟩
 rintro ⟨g,rfl,hF,hl,ht,he⟩
 refine⟨g,rfl,hF,Nat.lt_of_lt_of_le hl (size_setCells _ _ _ _),World.there_setCells ht _ _ _,fun j t k c hj=>?_⟩
 obtain⟨h1,h2,h3⟩:=he j t k c hj
 refine⟨?_,h2,h3.set _ _ _⟩
 have hm:Mod (fun q=>q=b) w (w.setCells b o vs):=mod_setCellsQ (F:=fun q=>q=b) rfl _ _ _
 have hblk:=hm.block g hl (fun e=>hb (by rw[e]))
 rw[World.cell?_of_block hblk]
 exact h1
theorem CgW.mod {F G:Nat->Prop} {w w':World} {a:Option Addr} {n:Nat} {T:List (Option Addr × Nat × Nat)} (h:CgW F w a n T) (hm:Mod G w w') (hn:∀ g,F g->¬ G g):CgW F w' a n T:=by
 refine⟨h.1,h.2.imp id ?_⟩
 rintro ⟨g,rfl,hF,hl,ht,he⟩
 have hblk:=hm.block g hl (hn g hF)
 refine⟨g,rfl,hF,Nat.lt_of_lt_of_le hl hm.size,fun j hj=>?_,fun j t k c hj=>?_⟩
 ·obtain⟨h1,h2⟩:=ht j hj
  refine⟨?_,?_⟩
  ·rw[World.cell?_of_block hblk];exact h1
  ·rw[World.frozen?_of_block hblk];exact h2
 ·obtain⟨h1,h2,h3⟩:=he j t k c hj
  refine⟨?_,h2,h3.mod hm (fun g hg=>hn g hg.1)⟩
  rw[World.cell?_of_block hblk]
  exact h1
def sOfC:List Value->Option Addr × Nat × Nat
 | [_,_,.slice t k c]=>(t,k,c)
 | _=>(none,0,0)
theorem CgW.ofOwn {F:Nat->Prop} {w:World} {B:Nat} {a:Option Addr} {n c:Nat} {l:List Chg} (h:ChgsOwn B w (.slice a n c) l) (hn:l.length=n) (hs:n<=2932031007402) (hz:∀ x∈l,x.row.length<=4398046511104) (hF:∀ g,B<=g->g<w.heap.size->F g):∃ T,CgW F w a n T:=by
 obtain⟨rows,h1,h2⟩:=h
 have hl:=h2.length
 rw[hn] at h1
 refine⟨rows.map sOfC,by rw[List.length_map];omega,?_⟩
 rcases Nat.eq_zero_or_pos n with h0 | h0
 ·exact .inl h0
 ·have hrl:∀ x∈rows,x.length=3:=by
   intro x hx
   obtain⟨_,_,tv,rfl,_⟩:=all2_mem h2 x hx
   rfl
  have hrow:RowAt w (.slice a n c) 3 rows:=RowAt.ofOwn h1 (by omega) hrl (by omega)
  have hfl:rows.flatten.length=n * 3:=by rw[flatten_len hrl,hl,hn]
  rcases h1.2 with ⟨h3,_⟩ | ⟨g,cap,cur,hv,hb,hg,_⟩
  ·simp only[Value.slice.injEq] at h3
   omega
  ·simp only[Value.slice.injEq] at hv
   obtain⟨rfl,_,rfl⟩:=hv
   have hgl:g<w.heap.size:=(Array.getElem?_eq_some_iff.1 hg).1
   refine .inr ⟨g,rfl,hF g hb hgl,hgl,there_ofOwn h1 hfl,fun i t k c' hT=>?_⟩
   rw[List.getElem?_map] at hT
   obtain⟨x,hx,hxT⟩:=Option.map_eq_some_iff.1 hT
   have hi:=(List.getElem?_eq_some_iff.1 hx).1
   obtain⟨at_,hat⟩:∃ y,l[i]? = some y:=⟨l[i]'(by omega),List.getElem?_eq_getElem (by omega)⟩
   obtain⟨b',hb',tv,rfl,ho⟩:=h2.get hat
   rw[hx] at hb'
   simp only[Option.some.injEq] at hb'
   subst hb'
   obtain⟨t',c'',rfl⟩:=own_sl ho
   simp only[sOfC,Prod.mk.injEq] at hxT
   obtain⟨rfl,rfl,rfl⟩:=hxT
   obtain⟨b,off,cap',hv,_,_,_,hc⟩:=hrow.get hx
   simp only[Value.slice.injEq,Option.some.injEq,Addr.mk.injEq,and_true] at hv
   obtain⟨⟨rfl,rfl⟩,_,_⟩:=hv
   have h5:=hc 2 _ rfl
   rw[Nat.zero_add] at h5
   refine⟨h5,hz _ (List.mem_of_getElem? hat),Wrt.ofOwn ho ho.1 ?_⟩
   rintro q rfl hq hBq
   rcases ho.2 with ⟨h6,_⟩ | ⟨g',cap2,cur2,hv2,_,hg2,_⟩
   ·simp at h6
   ·simp only[Value.slice.injEq,Option.some.injEq,Addr.mk.injEq,and_true,true_and] at hv2
    obtain⟨rfl,_⟩:=hv2
    refine⟨hF _ hBq hq,?_⟩
    rintro rfl
    rw[hg] at hg2
    simp at hg2
theorem CgW.at_ {F:Nat->Prop} {w:World} {a:Option Addr} {n i:Nat} {T:List (Option Addr × Nat × Nat)} (h:CgW F w a n T) (hi:i<n):∃ g t k c u,a=some ⟨g,0,none⟩/\F g/\g<w.heap.size/\T[i]? = some (t,k,c)/\w.cell? ⟨g,i * 3+1,none⟩=some u/\w.frozen? ⟨g,i * 3+1,none⟩=false /\
 w.cell? ⟨g,i * 3+2,none⟩=some (.slice t k c)/\k<=4398046511104/\Wrt (fun q=>F q/\q≠g) w 3 t k:=by
 obtain⟨hl,h | ⟨g,rfl,hF,hg,ht,he⟩⟩:=h
 ·omega
 ·obtain⟨⟨t,k,c⟩,hT⟩:∃ x,T[i]? = some x:=⟨T[i]'(by omega),List.getElem?_eq_getElem (by omega)⟩
  obtain⟨h1,h2⟩:=ht (i * 3+1) (by omega)
  rw[Nat.zero_add] at h1 h2
  obtain⟨u,hu⟩:=Option.isSome_iff_exists.1 h1
  obtain⟨h3,h4,h5⟩:=he i t k c hT
  exact⟨g,t,k,c,u,rfl,hF,hg,hT,hu,h2,h3,h4,h5⟩
def AwW (F:Nat->Prop) (w:World) (a:Option Addr) (n:Nat) (T:List (Option Addr × Nat × Nat)):Prop :=
 T.length=n/\(n=0∨∃ g,a=some ⟨g,0,none⟩/\F g/\g<w.heap.size/\w.there g 0 (n * 2)/\∀ (i:Nat) (t:Option Addr) (k c:Nat),T[i]? = some (t,k,c) ->
  w.cell? ⟨g,i * 2+1,none⟩=some (.slice t k c)/\k<=2932031007317/\Wrt (fun q=>F q/\q≠g) w 4 t k)
theorem AwW.setOther {F:Nat->Prop} {w:World} {a:Option Addr} {n:Nat} {T:List (Option Addr × Nat × Nat)} (h:AwW F w a n T) {b:Nat} (hb:a≠some ⟨b,0,none⟩) (o:Nat) (vs:List Value):AwW F (w.setCells b o vs) a n T:=by
 refine⟨h.1,h.2.imp id ?_⟩
 rintro ⟨g,rfl,hF,hl,ht,he⟩
 refine⟨g,rfl,hF,Nat.lt_of_lt_of_le hl (size_setCells _ _ _ _),World.there_setCells ht _ _ _,fun j t k c hj=>?_⟩
 obtain⟨h1,h2,h3⟩:=he j t k c hj
 refine⟨?_,h2,h3.set _ _ _⟩
 have hm:Mod (fun q=>q=b) w (w.setCells b o vs):=mod_setCellsQ (F:=fun q=>q=b) rfl _ _ _
 have hblk:=hm.block g hl (fun e=>hb (by rw[e]))
 rw[World.cell?_of_block hblk]
 exact h1
theorem flat4_lenW:∀ l:List Trm,(l.flatMap Trm.cells).length=l.length * 4
 | []=>rfl
 | t::l=>by
   have ih:=flat4_lenW l
   have h4:t.cells.length=4:=rfl
   rw[List.flatMap_cons,List.length_append,ih,List.length_cons,h4]
   omega
def tOfW:List Value->Option Addr × Nat × Nat
 | [_,.slice t k c]=>(t,k,c)
 | _=>(none,0,0)
theorem AwW.ofOwn {F:Nat->Prop} {B:Nat} {w:World} {a:Option Addr} {n c:Nat} {al:List Atm} (h:AtomsOwn B w (.slice a n c) al) (hn:al.length=n) (hs:n<=1048576) (hz:∀ x∈al,x.ts.length<=2932031007317) (hF:∀ g cur,(w.heap[g]? = some (.cells cur 67)∨w.heap[g]? = some (.cells cur 71))->B<=g->F g):∃ T,AwW F w a n T:=by
 obtain⟨rows,h1,h2⟩:=h
 have hl:=h2.length
 rw[hn] at h1
 refine⟨rows.map tOfW,by rw[List.length_map];omega,?_⟩
 rcases Nat.eq_zero_or_pos n with h0 | h0
 ·exact .inl h0
 ·have hrl:∀ x∈rows,x.length=2:=by
   intro x hx
   obtain⟨_,_,tv,rfl,_⟩:=all2_mem h2 x hx
   rfl
  have hrow:RowAt w (.slice a n c) 2 rows:=RowAt.ofOwn h1 (by omega) hrl (by omega)
  have hfl:rows.flatten.length=n * 2:=by
   have:∀ l:List (List Value),(∀ x∈l,x.length=2)->l.flatten.length=l.length * 2:=by
    intro l
    induction l with
    | nil=>intro _;rfl
    | cons x l ih =>
      intro hx
      rw[List.flatten_cons,List.length_append,ih (fun y hy=>hx y (List.mem_cons_of_mem _ hy)),hx x List.mem_cons_self,List.length_cons]
      omega
   rw[this rows hrl,hl,hn]
  rcases h1.2 with ⟨h3,_⟩ | ⟨g,cap,cur,hv,hb,hg,_⟩
  ·simp only[Value.slice.injEq] at h3
   omega
  ·simp only[Value.slice.injEq] at hv
   obtain⟨rfl,_,rfl⟩:=hv
   have hgl:g<w.heap.size:=(Array.getElem?_eq_some_iff.1 hg).1
   refine .inr ⟨g,rfl,hF g _ (.inl hg) hb,hgl,there_ofOwn h1 hfl,fun i t k c' hT=>?_⟩
   rw[List.getElem?_map] at hT
   obtain⟨x,hx,hxT⟩:=Option.map_eq_some_iff.1 hT
   have hi:=(List.getElem?_eq_some_iff.1 hx).1
   obtain⟨at_,hat⟩:∃ y,al[i]? = some y:=⟨al[i]'(by omega),List.getElem?_eq_getElem (by omega)⟩
   obtain⟨b',hb',tv,rfl,ho⟩:=h2.get hat
   rw[hx] at hb'
   simp only[Option.some.injEq] at hb'
   subst hb'
   obtain⟨t',c'',rfl⟩:=own_sl ho
   simp only[tOfW,Prod.mk.injEq] at hxT
   obtain⟨rfl,rfl,rfl⟩:=hxT
   obtain⟨b,off,cap',hv,_,_,_,hc⟩:=hrow.get hx
   simp only[Value.slice.injEq,Option.some.injEq,Addr.mk.injEq,and_true] at hv
   obtain⟨⟨rfl,rfl⟩,_,_⟩:=hv
   have h5:=hc 1 _ rfl
   rw[Nat.zero_add] at h5
   refine⟨h5,hz _ (List.mem_of_getElem? hat),Wrt.ofOwn ho (flat4_lenW _) ?_⟩
   rintro q rfl hq hBq
   rcases ho.2 with ⟨h6,_⟩ | ⟨g',cap2,cur2,hv2,_,hg2,_⟩
   ·simp at h6
   ·simp only[Value.slice.injEq,Option.some.injEq,Addr.mk.injEq,and_true,true_and] at hv2
    obtain⟨rfl,_⟩:=hv2
    refine⟨hF _ _ (.inr hg2) hBq,?_⟩
    rintro rfl
    rw[hg] at hg2
    simp at hg2
theorem AwW.mod {F G:Nat->Prop} {w w':World} {a:Option Addr} {n:Nat} {T:List (Option Addr × Nat × Nat)} (h:AwW F w a n T) (hm:Mod G w w') (hn:∀ g,F g->¬ G g):AwW F w' a n T:=by
 refine⟨h.1,h.2.imp id ?_⟩
 rintro ⟨g,rfl,hF,hl,ht,he⟩
 have hblk:=hm.block g hl (hn g hF)
 refine⟨g,rfl,hF,Nat.lt_of_lt_of_le hl hm.size,fun j hj=>?_,fun j t k c hj=>?_⟩
 ·obtain⟨h1,h2⟩:=ht j hj
  refine⟨?_,?_⟩
  ·rw[World.cell?_of_block hblk];exact h1
  ·rw[World.frozen?_of_block hblk];exact h2
 ·obtain⟨h1,h2,h3⟩:=he j t k c hj
  refine⟨?_,h2,h3.mod hm (fun g hg=>hn g hg.1)⟩
  rw[World.cell?_of_block hblk]
  exact h1
theorem AwW.at_ {F:Nat->Prop} {w:World} {a:Option Addr} {n i:Nat} {T:List (Option Addr × Nat × Nat)} (h:AwW F w a n T) (hi:i<n):∃ g t k c u,a=some ⟨g,0,none⟩/\F g/\g<w.heap.size/\T[i]? = some (t,k,c)/\w.cell? ⟨g,i * 2,none⟩=some u/\w.frozen? ⟨g,i * 2,none⟩=false /\
 w.cell? ⟨g,i * 2+1,none⟩=some (.slice t k c)/\k<=2932031007317/\Wrt (fun q=>F q/\q≠g) w 4 t k:=by
 obtain⟨hl,h | ⟨g,rfl,hF,hg,ht,he⟩⟩:=h
 ·omega
 ·obtain⟨⟨t,k,c⟩,hT⟩:∃ x,T[i]? = some x:=⟨T[i]'(by omega),List.getElem?_eq_getElem (by omega)⟩
  obtain⟨h1,h2⟩:=ht (i * 2) (by omega)
  rw[Nat.zero_add] at h1 h2
  obtain⟨u,hu⟩:=Option.isSome_iff_exists.1 h1
  obtain⟨h3,h4,h5⟩:=he i t k c hT
  exact⟨g,t,k,c,u,rfl,hF,hg,hT,hu,h2,h3,h4,h5⟩
theorem ownsRow_modB {w w':World} {F:Nat->Prop} {B size n:Nat} {e:TypeId} {u:Value} {xs:List Value} (h:w.ownsRow B e size u n xs) (hm:Mod F w w') (hn:∀ k,F k->k<B):w'.ownsRow B e size u n xs:=by
 refine hm.ownsRow h (fun k hk hf=>?_)
 rcases h.2 with ⟨rfl,_⟩ | ⟨g,cap,cur,rfl,hb,_⟩
 ·simp [Value.ownBlock] at hk
 ·simp only[Value.ownBlock,Option.some.injEq] at hk
  have:=hn k hf
  omega
theorem AtomsOwn.modB {B:Nat} {F:Nat->Prop} {w w':World} {v:Value} {al:List Atm} (h:AtomsOwn B w v al) (hm:Mod F w w') (hn:∀ k,F k->k<B):AtomsOwn B w' v al:=by
 obtain⟨rows,h1,h2⟩:=h
 exact⟨rows,ownsRow_modB h1 hm hn,h2.mono fun b a ⟨tv,e,h3⟩=>⟨tv,e,ownsRow_modB h3 hm hn⟩⟩
theorem ChgsOwn.modB {B:Nat} {F:Nat->Prop} {w w':World} {v:Value} {l:List Chg} (h:ChgsOwn B w v l) (hm:Mod F w w') (hn:∀ k,F k->k<B):ChgsOwn B w' v l:=by
 obtain⟨rows,h1,h2⟩:=h
 exact⟨rows,ownsRow_modB h1 hm hn,h2.mono fun b a ⟨tv,e,h3⟩=>⟨tv,e,ownsRow_modB h3 hm hn⟩⟩
theorem CmdOwn.modB {B:Nat} {F:Nat->Prop} {w w':World} {cells:Array Value} {c:Cmd} (h:CmdOwn B w cells c) (hm:Mod F w w') (hn:∀ k,F k->k<B):CmdOwn B w' cells c:=by
 obtain⟨cv,hv,av,bv,rv,rfl,h1,h2,h3,h4,h5⟩:=h
 exact⟨cv,hv,av,bv,rv,rfl,ownsRow_modB h1 hm hn,ownsRow_modB h2 hm hn,h3.modB hm hn,h4.modB hm hn,ownsRow_modB h5 hm hn⟩
theorem CgW.ofOwnT {F:Nat->Prop} {w:World} {B:Nat} {a:Option Addr} {n c:Nat} {l:List Chg} (h:ChgsOwn B w (.slice a n c) l) (hn:l.length=n) (hs:n<=2932031007402) (hz:∀ x∈l,x.row.length<=4398046511104) (hF:∀ g cur,(w.heap[g]? = some (.cells cur 51)∨w.heap[g]? = some (.cells cur 69))->B<=g->F g):∃ T,CgW F w a n T:=by
 obtain⟨rows,h1,h2⟩:=h
 have hl:=h2.length
 rw[hn] at h1
 refine⟨rows.map sOfC,by rw[List.length_map];omega,?_⟩
 rcases Nat.eq_zero_or_pos n with h0 | h0
 ·exact .inl h0
 ·have hrl:∀ x∈rows,x.length=3:=by
   intro x hx
   obtain⟨_,_,tv,rfl,_⟩:=all2_mem h2 x hx
   rfl
  have hrow:RowAt w (.slice a n c) 3 rows:=RowAt.ofOwn h1 (by omega) hrl (by omega)
  have hfl:rows.flatten.length=n * 3:=by rw[flatten_len hrl,hl,hn]
  rcases h1.2 with ⟨h3,_⟩ | ⟨g,cap,cur,hv,hb,hg,_⟩
  ·simp only[Value.slice.injEq] at h3
   omega
  ·simp only[Value.slice.injEq] at hv
   obtain⟨rfl,_,rfl⟩:=hv
   have hgl:g<w.heap.size:=(Array.getElem?_eq_some_iff.1 hg).1
   refine .inr ⟨g,rfl,hF g _ (.inl hg) hb,hgl,there_ofOwn h1 hfl,fun i t k c' hT=>?_⟩
   rw[List.getElem?_map] at hT
   obtain⟨x,hx,hxT⟩:=Option.map_eq_some_iff.1 hT
   have hi:=(List.getElem?_eq_some_iff.1 hx).1
   obtain⟨at_,hat⟩:∃ y,l[i]? = some y:=⟨l[i]'(by omega),List.getElem?_eq_getElem (by omega)⟩
   obtain⟨b',hb',tv,rfl,ho⟩:=h2.get hat
   rw[hx] at hb'
   simp only[Option.some.injEq] at hb'
   subst hb'
   obtain⟨t',c'',rfl⟩:=own_sl ho
   simp only[sOfC,Prod.mk.injEq] at hxT
   obtain⟨rfl,rfl,rfl⟩:=hxT
   obtain⟨b,off,cap',hv,_,_,_,hc⟩:=hrow.get hx
   simp only[Value.slice.injEq,Option.some.injEq,Addr.mk.injEq,and_true] at hv
   obtain⟨⟨rfl,rfl⟩,_,_⟩:=hv
   have h5:=hc 2 _ rfl
   rw[Nat.zero_add] at h5
   refine⟨h5,hz _ (List.mem_of_getElem? hat),Wrt.ofOwn ho ho.1 ?_⟩
   rintro q rfl hq hBq
   rcases ho.2 with ⟨h6,_⟩ | ⟨g',cap2,cur2,hv2,_,hg2,_⟩
   ·simp at h6
   ·simp only[Value.slice.injEq,Option.some.injEq,Addr.mk.injEq,and_true,true_and] at hv2
    obtain⟨rfl,_⟩:=hv2
    refine⟨hF _ _ (.inr hg2) hBq,?_⟩
    rintro rfl
    rw[hg] at hg2
    simp at hg2
def TyB (W0:World) (lo hi:Nat) (t:TypeId) (g:Nat):Prop:=lo<=g/\g<hi/\∃ cur,W0.heap[g]? = some (.cells cur t)
theorem TyB.ne {W0:World} {lo hi:Nat} {t u:TypeId} {g:Nat} (h:TyB W0 lo hi t g) (h2:TyB W0 lo hi u g):t=u:=by
 obtain⟨_,_,c1,e1⟩:=h
 obtain⟨_,_,c2,e2⟩:=h2
 rw[e1] at e2
 simp only[Option.some.injEq,Obj.cells.injEq] at e2
 exact e2.2.1
structure MW (W0 Wm:World) (lo hi:Nat) (wr:World) (a1 a2 a3 a4 a5:Option Addr) (n1 n2 n3 n4 n5:Nat) (T U:List (Option Addr × Nat × Nat)):Prop where
 mod:Mod (fun g=>lo<=g/\g<hi) Wm wr
 cols:Wrt (TyB W0 lo hi 64) wr 2 a1 n1
 head:Wrt (TyB W0 lo hi 9) wr 1 a2 n2
 atoms:AwW (fun g=>TyB W0 lo hi 67 g∨TyB W0 lo hi 71 g) wr a3 n3 T
 chgs:CgW (fun g=>TyB W0 lo hi 51 g∨TyB W0 lo hi 69 g) wr a4 n4 U
 row:Wrt (TyB W0 lo hi 69) wr 3 a5 n5
section
variable {W0 Wm wr : World} {lo hi : Nat} {a1 a2 a3 a4 a5 : Option Addr} {n1 n2 n3 n4 n5 : Nat} {T U : List (Option Addr × Nat × Nat)}
theorem MW.put (h:MW W0 Wm lo hi wr a1 a2 a3 a4 a5 n1 n2 n3 n4 n5 T U) {t:TypeId} {g:Nat} (hg:TyB W0 lo hi t g) (h1:t=64∨t=9) (o:Nat) (vs:List Value):MW W0 Wm lo hi (wr.setCells g o vs) a1 a2 a3 a4 a5 n1 n2 n3 n4 n5 T U:=by
 have m:Mod (fun q=>q=g) wr (wr.setCells g o vs):=mod_setCellsQ (F:=fun q=>q=g) rfl _ _ _
 refine⟨h.mod.trans (mod_setCellsQ (F:=fun q=>lo<=q/\q<hi) ⟨hg.1,hg.2.1⟩ _ _ _) (fun _ _ q=>q),h.cols.set _ _ _,h.head.set _ _ _,h.atoms.mod m ?_,h.chgs.mod m ?_,h.row.set _ _ _⟩
 ·rintro q (hq | hq) rfl
  ·have:=hq.ne hg;subst this;revert h1;decide
  ·have:=hq.ne hg;subst this;revert h1;decide
 ·rintro q (hq | hq) rfl
  ·have:=hq.ne hg;subst this;revert h1;decide
  ·have:=hq.ne hg;subst this;revert h1;decide
theorem MW.putTerm (h:MW W0 Wm lo hi wr a1 a2 a3 a4 a5 n1 n2 n3 n4 n5 T U) {g:Nat} (hg:TyB W0 lo hi 67 g∨TyB W0 lo hi 71 g) (hne:a3≠some ⟨g,0,none⟩) (o:Nat) (vs:List Value):MW W0 Wm lo hi (wr.setCells g o vs) a1 a2 a3 a4 a5 n1 n2 n3 n4 n5 T U:=by
 have m:Mod (fun q=>q=g) wr (wr.setCells g o vs):=mod_setCellsQ (F:=fun q=>q=g) rfl _ _ _
 have hr:lo<=g/\g<hi:=by rcases hg with h | h<;>exact⟨h.1,h.2.1⟩
 refine⟨h.mod.trans (mod_setCellsQ (F:=fun q=>lo<=q/\q<hi) hr _ _ _) (fun _ _ q=>q),h.cols.set _ _ _,h.head.set _ _ _,h.atoms.setOther hne _ _,h.chgs.mod m ?_,h.row.set _ _ _⟩
 rintro q (hq | hq) rfl
 ·rcases hg with h | h<;>exact absurd (hq.ne h) (by decide)
 ·rcases hg with h | h<;>exact absurd (hq.ne h) (by decide)
theorem MW.putRow (h:MW W0 Wm lo hi wr a1 a2 a3 a4 a5 n1 n2 n3 n4 n5 T U) {g:Nat} (hg:TyB W0 lo hi 51 g∨TyB W0 lo hi 69 g) (hne:a4≠some ⟨g,0,none⟩) (o:Nat) (vs:List Value):MW W0 Wm lo hi (wr.setCells g o vs) a1 a2 a3 a4 a5 n1 n2 n3 n4 n5 T U:=by
 have m:Mod (fun q=>q=g) wr (wr.setCells g o vs):=mod_setCellsQ (F:=fun q=>q=g) rfl _ _ _
 have hr:lo<=g/\g<hi:=by rcases hg with h | h<;>exact⟨h.1,h.2.1⟩
 refine⟨h.mod.trans (mod_setCellsQ (F:=fun q=>lo<=q/\q<hi) hr _ _ _) (fun _ _ q=>q),h.cols.set _ _ _,h.head.set _ _ _,h.atoms.mod m ?_,h.chgs.setOther hne _ _,h.row.set _ _ _⟩
 rintro q (hq | hq) rfl
 ·rcases hg with h | h<;>exact absurd (hq.ne h) (by decide)
 ·rcases hg with h | h<;>exact absurd (hq.ne h) (by decide)
theorem own_ty {w:World} {B size n cap:Nat} {e:TypeId} {a:Option Addr} {xs:List Value} (h:w.ownsRow B e size (.slice a n cap) n xs) (g:Nat) (ha:a=some ⟨g,0,none⟩) (hl:g<w.heap.size) (hB:B<=g):TyB w B w.heap.size e g:=by
 subst ha
 rcases h.2 with ⟨h6,_⟩ | ⟨g',cap',cur,hv,_,hg,_⟩
 ·simp at h6
 ·simp only[Value.slice.injEq,Option.some.injEq,Addr.mk.injEq,and_true,true_and] at hv
  obtain⟨rfl,_⟩:=hv
  exact⟨hB,hl,cur,hg⟩
theorem MW.start {w1 W4:World} {lo:Nat} {c:Cmd} {k i n:Int} {x1 x2 x3:ByteArray} {d1 d2 d3 d4 d5:Nat} (h:CmdOwn lo w1 #[.int .i64 k,.string x1,.slice a1 n1 d1,.string x2,.slice a2 n2 d2,.slice a3 n3 d3,.slice a4 n4 d4,.string x3,.int .i64 i,.int .i64 n,.slice a5 n5 d5] c) (hs:SmallC c) (hb:Below w1.heap.size w1 W4) :
 ∃ T U,MW w1 W4 lo w1.heap.size W4 a1 a2 a3 a4 a5 n1 n2 n3 n4 n5 T U/\n1<=5/\n2<=200000/\n3<=6/\n4<=256/\n5<=200000:=by
 obtain⟨cv,hv,av,bv,rv,hh,h1,h2,h3,h4,h5⟩:=h
 rw[Array.mk.injEq] at hh
 simp only[List.cons.injEq,and_true] at hh
 obtain⟨_,_,rfl,_,rfl,rfl,rfl,_,_,_,rfl⟩:=hh
 obtain⟨_,_,e1⟩:=own_sl h1
 obtain⟨_,_,e2⟩:=own_sl h2
 have h3c:=h3
 obtain⟨rows3,h3',_⟩:=h3c
 obtain⟨_,_,e3⟩:=own_sl h3'
 obtain⟨_,_,e5⟩:=own_sl h5
 have h4c:=h4
 obtain⟨rows4,h4',_⟩:=h4c
 obtain⟨_,_,e4⟩:=own_sl h4'
 simp only[Value.slice.injEq] at e1 e2 e3 e4 e5
 have m:Mod (fun _=>False) w1 W4:=Mod.ofBelow hb
 unfold ColsOwn at h1
 unfold OwnS at h2
 rw[<-e1.2.1] at h1
 rw[<-e2.2.1] at h2
 rw[<-e5.2.1] at h5
 obtain⟨T,hT⟩:=AwW.ofOwn (F:=fun g=>TyB w1 lo w1.heap.size 67 g∨TyB w1 lo w1.heap.size 71 g) h3 e3.2.1.symm (by have:=hs.atoms;omega) (fun x hx=>by have:=hs.terms x hx;omega) (fun g cur hg hB=>by
  rcases hg with hg | hg
  ·exact .inl ⟨hB,(Array.getElem?_eq_some_iff.1 hg).1,cur,hg⟩
  ·exact .inr ⟨hB,(Array.getElem?_eq_some_iff.1 hg).1,cur,hg⟩)
 obtain⟨U,hU⟩:=CgW.ofOwnT (F:=fun g=>TyB w1 lo w1.heap.size 51 g∨TyB w1 lo w1.heap.size 69 g) h4 e4.2.1.symm (by have:=hs.b;omega) (fun x hx=>by have:=hs.rows x hx;omega) (fun g cur hg hB=>by
  rcases hg with hg | hg
  ·exact .inl ⟨hB,(Array.getElem?_eq_some_iff.1 hg).1,cur,hg⟩
  ·exact .inr ⟨hB,(Array.getElem?_eq_some_iff.1 hg).1,cur,hg⟩)
 exact⟨T,U,⟨Mod.refl _ _,(Wrt.ofOwn h1 h1.1 (own_ty h1)).mod m (fun _ _ q=>q),(Wrt.ofOwn h2 (by rw[h2.1]) (own_ty h2)).mod m (fun _ _ q=>q),hT.mod m (fun _ _ q=>q),hU.mod m (fun _ _ q=>q),(Wrt.ofOwn h5 h5.1 (own_ty h5)).mod m (fun _ _ q=>q)⟩,by rw[e1.2.1];exact hs.cols,by rw[e2.2.1];exact hs.head,by rw[e3.2.1];exact hs.atoms,by rw[e4.2.1];exact hs.b,by rw[e5.2.1];exact hs.row⟩
end
end Go.Proofs.YtamjadghncnbcaaGreatDoor
