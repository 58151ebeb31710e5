/- Rows of the call's own: taken apart, one set. osierref08.CopyAll, walked. Elements struck out of a row of the call's own: no program in sight. Rows arranged, plainly: a sorted list with the doubled ones struck is the set in its order. Maps with few entries: a block that is a map, its update, its frame. arena.Arena[api.Row]: Take at an empty arena, find and At at its one slot; walked. -/
import Derived.Test.YtgopfpjinohncaaGreatDoorGmL
import Derived.Test.YtgopfpjinohncaaGreatDoorGaL
import Derived.Test.YtgopfpjinohncaaGreatDoorKfL
import Derived.Test.YtgopfpjinohncaaGreatDoorRxL
import Derived.Test.YtgopfpjinohncaaGreatDoorDm0ZL
import Derived.Test.YtgopfpjinohncaaGreatDoorInStrZL
import Derived.Deep.RegionLaw
import Derived.Lib.SliceRun
import Derived.MapKept
import Derived.WideMake
import Derived.BigQuiet
import Derived.Deep.QuietTactic
import Derived.Deep.AppendLies
namespace Go.Proofs.YtgopfpjinohncaaGreatDoor
open Go.RowKit
set_option linter.unusedVariables false
theorem split_rows (sz:Nat):∀ (n:Nat) (xs:List Value),xs.length=n * sz->∃ rows:List (List Value),rows.length=n/\(∀ x∈rows,x.length=sz)/\rows.flatten=xs
 | 0,xs,h=>⟨[],rfl,by simp,by simp at h;simp [h]⟩
 | n+1,xs,h=>by
   rw[Nat.succ_mul] at h
   obtain⟨rows,h1,h2,h3⟩:=split_rows sz n (xs.drop sz) (by rw[List.length_drop];omega)
   refine⟨xs.take sz::rows,by simp [h1],?_,by rw[List.flatten_cons,h3,List.take_append_drop]⟩
   intro x hx
   rcases List.mem_cons.1 hx with rfl | hx
   ·rw[List.length_take]
    omega
   ·exact h2 x hx
theorem set_take {α:Type} {l:List α} {k:Nat} {x:α} (hk:k<l.length):(l.set k x).take (k+1)=l.take k++[x]:=by
 rw[List.take_add_one,List.take_set_of_le (Nat.le_refl _),List.getElem?_set_self hk]
 rfl
theorem own_set3 {w:World} {g k n cap base:Nat} {e:TypeId} {rows:List (List Value)} {a b c:Value} (hown:w.ownsRow base e 3 (.slice (some ⟨g,0,none⟩) n cap) n rows.flatten) (hl:∀ x∈rows,x.length=3) (hn:rows.length=n) (hk:k<n)
 (ha:a.oneCell'=true) (hb:b.oneCell'=true) (hc:c.oneCell'=true) :
 (((w.setCell ⟨g,k * 3,none⟩ a).setCell ⟨g,k * 3+1,none⟩ b).setCell ⟨g,k * 3+2,none⟩ c).ownsRow base e 3 (.slice (some ⟨g,0,none⟩) n cap) n (rows.set k [a,b,c]).flatten /\
 Mod (fun j=>j=g) w (((w.setCell ⟨g,k * 3,none⟩ a).setCell ⟨g,k * 3+1,none⟩ b).setCell ⟨g,k * 3+2,none⟩ c):=by
 have h:=own_setCells (cells:=[a,b,c]) hown hl hn hk (by
  intro v hv
  simp only[List.mem_cons,List.not_mem_nil,or_false] at hv
  rcases hv with rfl | rfl | rfl
  ·exact ha
  ·exact hb
  ·exact hc)
 have e:w.setCells g (k * ([a,b,c]:List Value).length) [a,b,c]=((w.setCell ⟨g,k * 3,none⟩ a).setCell ⟨g,k * 3+1,none⟩ b).setCell ⟨g,k * 3+2,none⟩ c:=by
  simp [World.setCells]
 rw[e] at h
 exact⟨h.1,h.2.1⟩
theorem mt_own {w w':World} {g n cap base sz:Nat} {e:TypeId} {xs:List Value} {Ts:List TypeId} (hm:Mod (fun j=>j=g) w w') (ho:w.ownsRow base e sz (.slice (some ⟨g,0,none⟩) n cap) n xs) (he:e∈Ts):MT 0 Ts w w':=by
 rcases ho.2 with ⟨h0,_⟩ | ⟨g',cap',cur,hv,_,hh,_⟩
 ·simp at h0
 ·simp only[Value.slice.injEq,Option.some.injEq,Addr.mk.injEq,and_true,true_and] at hv
  obtain⟨rfl,rfl⟩:=hv
  exact MT.ofMod hm hh he (Nat.zero_le _)
theorem set_all {α:Type} {l:List α} {p:α->Prop} {k:Nat} {x:α} (h:∀ y∈l,p y) (hx:p x):∀ y∈l.set k x,p y:=by
 intro y hy
 rcases List.mem_or_eq_of_mem_set hy with h1 | rfl
 ·exact h y h1
 ·exact hx
theorem Tryz.infoRl:(Tryz.prog.info? 57).map (fun i=>(i.zero,i.size,i.bytes))=some (some (.agg #[.string ⟨#[]⟩,.slice none 0 0]),2,40):=by kernel_rfl
def RelsNew (B:Nat) (w:World) (v:Value) (l:List Rln):Prop:=RelsOwn (fun k=>B<=k) w v l
set_option maxHeartbeats 8000000 in
set_option maxRecDepth 100000 in
theorem copyRels_any (w:World) (v:Value) (l:List Rln) (h:RelsAt w v l) (hn:l.length<=3518437208780) :
 Calls Tryz.prog 9 #[v] w fun e w'=>∃ v',e=.returned v'/\RelsNew w.heap.size w' v' l/\Below w.heap.size w w':=by
 obtain⟨ic,hic,hc0,hc1,hc2⟩:=info_parts Tryz.infoRl
 obtain⟨ad,cap,rfl,hnc,hcm⟩:=h.form
 unfold maxLen at hcm
 have HR:=Lib.hid h
 clear h
 generalize hN:l.length=n at *
 have HN:=Lib.hid hN
 clear hN
 go_enter Tryz.func9,Tryz.ntmps9
 go_wp2_with (at_make;refine wpList_make_full _ rfl _ _ 22 rfl w.heap.size 57 ic (.agg #[.string ⟨#[]⟩,.slice none 0 0]) 2 Tryz.underlying22 hic hc0 hc1 _ _ _ _ n rfl rfl rfl rfl ?b2 ?b3 ?b4 ?_)
 case b2=>first | omega | (rw[hc2];omega)
 case b3=>unfold maxLen;omega
 try (case b4=>omega)
 intro w5 hown5 hgrow5
 obtain⟨rows0,hr0,hr1,hr2⟩:=split_rows 2 n _ hown5.1
 rw[<-hr2] at hown5
 have hb5:Below w.heap.size w w5:=Below.grown (Below.refl _ _) hgrow5 (Nat.le_refl _) (fun q hq=>by cases hq)
 have HO5:=Lib.hid hown5
 have HB5:=Lib.hid hb5
 have HRL:=Lib.hid (And.intro hr0 hr1)
 clear hown5 hgrow5 hb5 hr0 hr1 hr2
 go_wp2_with fail
 go_loopw [4] (fun i wr=>∃ (k:Nat) (rows:List (List Value)),k<=n/\i=.int .i64 k/\Hid (wr.ownsRow w.heap.size 57 2 (.slice (some ⟨w.heap.size,0,none⟩) n n) n rows.flatten)/\Hid (rows.length=n/\∀ x∈rows,x.length=2)/\Hid (All2 (RelO (fun q=>w.heap.size<q) wr) (rows.take k) (l.take k))/\Hid (Below w.heap.size w wr)) (fun i _=>n - (intOf i).toNat)
 case atStart=>exact⟨0,rows0,Nat.zero_le _,rfl,HO5,HRL,Lib.hid trivial,HB5⟩
 case round =>
  obtain⟨k,rows,hk,rfl,OW,RL,AL,BW⟩:=hrel
  obtain⟨wo,rfl⟩:∃ wo:World,wo=wr:=⟨_,rfl⟩
  by_cases hkn:k<n
  ·obtain⟨c,hc⟩:∃ c,l[k]? = some c:=⟨l[k]'(by rw[HN.out];exact hkn),List.getElem?_eq_getElem (by rw[HN.out];exact hkn)⟩
   obtain⟨b,off,cap',cv,hv,_,_,hbl,q0,q1,hrow,hrl⟩:=(HR.out.keep BW.out).get hc
   rw[HN.out] at hv
   simp only[Value.slice.injEq,true_and] at hv
   obtain⟨rfl,rfl⟩:=hv
   obtain⟨ra,rc,rfl,_,_⟩:=hrow.form
   have hdk:decide ((k:Int)<0)=false:=by simp
   have hdn:decide ((n:Int)<=(k:Int))=false:=by simp;omega
   have hcr:=fun W (hW:Below wo.heap.size wo W)=>copyRel_any W ⟨c.name.toArray⟩ _ c.cols (ColsAt.keep hrow hW) hrl
   have HCR:=Lib.hid hcr
   have HCC:=Lib.hid hc
   have hbw:=BW.out.size
   have hgo:w.heap.size<wo.heap.size:=(World.ownsRow.lt OW.out w.heap.size rfl).2
   clear hc hrow hcr
   generalize hCN:c.cols.length=rn at *
   have HCN:=Lib.hid hCN
   clear hCN
   go_wp2_with fail
   refine (HCR.out _ (Below.refl _ _)).mono ?_
   rintro e w6 ⟨u6,rfl,hown6,hb6⟩
   obtain⟨ua,uc,rfl⟩:=own_sl hown6
   have o6:=(MT.ofBelow (B:=0) (Ts:=[]) hb6).ownsRow OW.out (by simp)
   have HO6:=Lib.hid o6
   have HW6:=Lib.hid hown6
   have HB6:=Lib.hid hb6
   clear o6 hown6 hb6
   go_wp2_with (refine wpList_store_elem rfl 57 _ _ rfl w.heap.size k 57 2 w.heap.size n n rows _ rfl rfl HO6.out RL.out.2 RL.out.1 hkn rfl (by kernel_rfl) (by simp [Value.oneCell']) ?_)
   intro w7 h7 m7 z7
   have hcols:ColsOwn 0 w6 (.slice ua rn uc) c.cols:=by
    unfold ColsOwn
    rw[HCN.out,<-cols_flat]
    exact World.ownsRow.low HW6.out (Nat.zero_le _)
   have hinq:∀ q,(Value.slice ua rn uc).ownBlock=some q->w.heap.size<q:=fun q hq=>by
    have:=(World.ownsRow.lt HW6.out q hq).1
    omega
   have hall:∀ W',Mod (fun j=>j=w.heap.size) w6 W'->All2 (RelO (fun q=>w.heap.size<q) W') ((rows.set k [.string ⟨c.name.toArray⟩,.slice ua rn uc]).take (k+1)) (l.take (k+1)):=by
    intro W' m6
    rw[set_take (by rw[RL.out.1];exact hkn),List.take_add_one,HCC.out]
    exact All2.snoc ⟨_,rfl,m6.ownsRow hcols (fun q hq=>by have:=hinq q hq;omega),hinq⟩ (AL.out.mono fun q a hh=>(hh.mod (Mod.ofBelow (F:=fun _=>False) HB6.out) (fun _ _ f=>f)).mod m6 (fun q hq=>by omega))
   have HS:=Lib.hid h7
   have HAL:=Lib.hid (hall _ m7)
   have HB7:=Lib.hid (Mod.own (BW.out.trans (HB6.out.mono hbw)) m7 (Nat.le_refl _))
   clear h7 m7 z7 hcols hinq hall
   go_wp2_with fail
   go_roundw
   case rel=>exact⟨k+1,_,by omega,by go_num,HS,Lib.hid ⟨by rw[List.length_set];exact RL.out.1,set_all RL.out.2 rfl⟩,HAL,HB7⟩
   case measure=>simp [intOf];omega
  ·obtain rfl:k=n:=by omega
   have hal:=AL.out
   rw[List.take_of_length_le (by rw[RL.out.1];exact Nat.le_refl _),List.take_of_length_le (by rw[HN.out];exact Nat.le_refl _)] at hal
   have HAL:=Lib.hid hal
   clear hal
   go_wp2_with fail
   go_ret
   exact⟨_,rfl,⟨rows,by rw[HN.out];exact World.ownsRow.low OW.out (Nat.zero_le _),fun q hq=>by simp [Value.ownBlock] at hq;omega,HAL.out.mono fun b a hh=>hh.mono fun q _ hq=>Nat.le_of_lt hq⟩,BW.out⟩
def keepN {α:Type} (p:Nat->Bool):Nat->List α->List α
 | _,[]=>[]
 | i,x::l=>if p i then keepN p (i+1) l else x::keepN p (i+1) l
section
variable {α β : Type} {p : Nat -> Bool}
theorem keepN_snoc:∀ (i:Nat) (l:List α) (x:α),keepN p i (l++[x])=keepN p i l++if p (i+l.length) then [] else [x]
 | i,[],x=>by
   show (if p i=true then [] else [x])=[]++_
   simp
 | i,y::l,x=>by
   have h:=keepN_snoc (i+1) l x
   rw[show i+1+l.length=i+(y::l).length by rw[List.length_cons];omega] at h
   rw[List.cons_append]
   show (if p i=true then keepN p (i+1) (l++[x]) else y::keepN p (i+1) (l++[x]))=(if p i=true then keepN p (i+1) l else y::keepN p (i+1) l)++_
   rw[h]
   by_cases hp:p i=true
   ·rw[if_pos hp,if_pos hp]
   ·rw[if_neg hp,if_neg hp,List.cons_append]
theorem keepN_none:∀ (i:Nat) (l:List α),(∀ j,i<=j->j<i+l.length->p j=false)->keepN p i l=l
 | _,[],_=>rfl
 | i,x::l,h=>by
   unfold keepN
   rw[if_neg (by rw[h i (Nat.le_refl _) (by rw[List.length_cons];omega)];decide),keepN_none (i+1) l fun j h1 h2=>h j (by omega) (by rw[List.length_cons];omega)]
end
theorem zero_cells {z:List Value} (h:∀ v∈z,v.oneCell'=true) (hl:0<z.length) (n:Nat):∀ v∈(Builtin.zeroCells z.toArray n).toList,v.oneCell'=true:=by
 intro v hv
 simp only[Builtin.zeroCells,Array.toList_map,List.mem_map] at hv
 obtain⟨i,_,rfl⟩:=hv
 have hlt:i % z.toArray.size<z.toArray.size:=Nat.mod_lt _ (by simpa using hl)
 rw[getElem!_pos z.toArray _ hlt]
 exact h _ (by simp)
def cptHit (M:List (List Vl)) (k:Nat):Bool:=match k with
 | 0=>false
 | k+1=>match M[k+1]?,M[k]? with
   | some a,some b=>decide (cmpRow a b=0)
   | _,_=>false
theorem cptHit_some {M:List (List Vl)} {k:Nat} {a b:List Vl} (h1:M[k+1]? = some a) (h2:M[k]? = some b):cptHit M (k+1)=decide (cmpRow a b=0):=by
 show (match M[k+1]?,M[k]? with
  | some a,some b=>decide (cmpRow a b=0)
  | _,_=>false)=_
 rw[h1,h2]
def cptG:List Vl->List (List Vl)->List (List Vl)
 | _,[]=>[]
 | y,x::l=>if cmpRow x y=0 then cptG x l else x::cptG x l
theorem keep_cptG:∀ (l pre:List (List Vl)) (y:List Vl),keepN (cptHit (pre++y::l)) (pre.length+1) l=cptG y l
 | [],_,_=>rfl
 | x::l,pre,y=>by
   have ih:=keep_cptG l (pre++[y]) x
   rw[List.length_append,List.length_singleton,show pre++[y]++x::l=pre++y::x::l by simp] at ih
   have h1:cptHit (pre++y::x::l) (pre.length+1)=decide (cmpRow x y=0):=cptHit_some (by simp) (by simp)
   unfold keepN
   rw[h1,ih]
   show _=if cmpRow x y=0 then cptG x l else x::cptG x l
   by_cases h:cmpRow x y=0
   ·rw[if_pos h,if_pos (by simpa using h)]
   ·rw[if_neg h,if_neg (by simpa using h)]
def NdW (l:List (List Vl)):Prop:=l.Pairwise fun x y=>¬ cmpRow y x<0
theorem cptG_ok:∀ (l:List (List Vl)) (y:List Vl),NdW (y::l)->SRw (y::cptG y l)/\∀ z,z∈y::cptG y l ↔ z∈y::l
 | [],y,_=>⟨by simp [cptG,SRw],fun _=>Iff.rfl⟩
 | x::l,y,h=>by
   have h1:=List.pairwise_cons.1 h
   obtain⟨ih1,ih2⟩:=cptG_ok l x h1.2
   have hxy:=h1.1 x List.mem_cons_self
   show SRw (y::if cmpRow x y=0 then cptG x l else x::cptG x l)/\∀ z,z∈y::(if cmpRow x y=0 then cptG x l else x::cptG x l) ↔ _
   by_cases h0:cmpRow x y=0
   ·rw[if_pos h0]
    have e:=cmpRow_eq _ _ h0
    subst e
    refine⟨ih1,fun z=>(ih2 z).trans ⟨fun q=>List.mem_cons_of_mem _ q,fun q=>?_⟩⟩
    rcases List.mem_cons.1 q with rfl | q
    ·exact List.mem_cons_self
    ·exact q
   ·rw[if_neg h0]
    have hlt:cmpRow y x<0:=by
     have:=cmpRow_anti x y
     omega
    refine⟨List.pairwise_cons.2 ⟨fun z hz=>?_,ih1⟩,fun z=>?_⟩
    ·rcases List.mem_cons.1 hz with rfl | hz
     ·exact hlt
     ·exact cmpRow_trans _ _ _ hlt ((List.pairwise_cons.1 ih1).1 z hz)
    ·rw[List.mem_cons,ih2 z,List.mem_cons (a:=z) (b:=y)]
theorem compact_arr {M l:List (List Vl)} (hs:NdW M) (hp:M.Perm l):keepN (cptHit M) 0 M=arrP l:=by
 cases M with
 | nil=>rw[List.nil_perm.1 hp];rfl
 | cons y m =>
   have h1:=keep_cptG m [] y
   have h2:=cptG_ok m y hs
   have h3:keepN (cptHit (y::m)) 0 (y::m)=y::cptG y m:=by
    rw[<-h1]
    show (if cptHit (y::m) 0 then _ else _)=_
    rw[if_neg (by simp [cptHit])]
    rfl
   rw[h3]
   exact arrP_eq h2.1 fun z=>(h2.2 z).trans hp.mem_iff
def setMap (w:World) (b:Nat) (es:Array MapEntry) (c:Nat):World := { w with heap:=w.heap.setIfInBounds b (.map es c) }
theorem setMap.modw (w:World) (b:Nat) (es:Array MapEntry) (c:Nat):Mod (fun k=>k=b) w (setMap w b es c) :=
 ⟨rfl,rfl,rfl,by unfold setMap;simp,fun i hi hn=>by
  unfold setMap
  show (w.heap.setIfInBounds b _)[i]? = _
  rw[Array.getElem?_setIfInBounds_ne (fun e=>hn e.symm)]⟩
theorem setMap.at {w:World} {b:Nat} {es es':Array MapEntry} {c c':Nat} (h:MapB w b es c):MapB (setMap w b es' c') b es' c':=by
 unfold setMap MapB
 show (w.heap.setIfInBounds b _)[b]? = _
 rw[Array.getElem?_setIfInBounds_self_of_lt h.lt]
theorem MapB.mod {F:Nat->Prop} {w w':World} {b:Nat} {es:Array MapEntry} {c:Nat} (h:MapB w b es c) (hm:Mod F w w') (hg:¬ F b):MapB w' b es c:=(hm.block b h.lt hg).trans h
theorem MapB.drew {w:World} {b:Nat} {es:Array MapEntry} {c:Nat} (h:MapB w b es c):MapB w.drew b es c:=h
theorem MapB.ne {w:World} {b g:Nat} {t:TypeId} {cs:Array Value} {es:Array MapEntry} {c:Nat} (h:MapB w b es c) (k:Blk w g t cs):b≠g:=by
 rintro rfl
 unfold MapB at h
 unfold Blk at k
 rw[h] at k
 cases k
theorem upd_str {P:Program} {w:World} (mty kt et:TypeId) (r c:Nat) (s:ByteArray) (val:Value) (hm:P.underlying mty=some (.map kt et)) (hk:P.underlying kt=some .string) (hb:MapB w r #[] c) :
 (Instr.mapUpdate mty (.map (some r)) (.string s) val).run P w=.ok () (setMap w r #[{ key:=.string s,val:=val,born:=c }] (c+1)):=run_mapUpdate_first w mty kt et r c s val hm hk hb
theorem upd_int {P:Program} {w:World} (mty kt et:TypeId) (r c:Nat) (n:Int) (val:Value) (hm:P.underlying mty=some (.map kt et)) (hk:P.underlying kt=some (.int .i64)) (hb:MapB w r #[] c) :
 (Instr.mapUpdate mty (.map (some r)) (.int .i64 n) val).run P w=.ok () (setMap w r #[{ key:=.int .i64 n,val:=val,born:=c }] (c+1)):=by
 have hf:Instr.findNow (.int .i64) (.int .i64 n) ([]:List MapEntry) 0=some none:=rfl
 have hc:(Instr.checkKey false 10000 kt (.int .i64 n)).run P w=.ok () w:=MapKept.run_checkKey (k:=.int .i64 n) hk (by simp [MapKept.IsKey]) false 9999
 simp [Instr.mapUpdate,run_underlying hm,MapKept.run_getObj_map hb,hc,MapKept.run_findKey hk hf,MapKept.run_setObj_map _ hb,Result.andThen,setMap]
theorem StE.mod {F:Nat->Prop} {w w':World} {st a1 m1 h1 tb a2 m2 c1:Nat} {mk:Bool} (h:StE w st a1 m1 h1 tb a2 m2 c1 mk) (hm:Mod F w w') (hF:∀ k,st<=k->¬ F k):StE w' st a1 m1 h1 tb a2 m2 c1 mk:=by
 have q:=h.plo
 exact⟨h.pst.mod hm (hF _ (Nat.le_refl _)),h.pa1.mod hm (hF _ (by omega)),h.pm1.mod hm (hF _ (by omega)),h.ph1.mod hm (hF _ (by omega)),hm.ownsRow h.ptb (fun k hk=>by cases hk;exact hF _ q.2.2.2.1),h.pa2.mod hm (hF _ (by omega)),h.pm2.mod hm (hF _ (by omega)),h.pc1.mod hm (hF _ (by omega)),h.pmm,h.plo⟩
theorem Tryz.infoSlotR:(Tryz.prog.info? 418).map (fun i=>(i.zero,i.size,i.bytes))=some (some (.agg #[.int .i64 0,.bool false,.slice none 0 0]),3,40):=by kernel_rfl
set_option maxHeartbeats 4000000 in
set_option maxRecDepth 100000 in
theorem take0 (w:World) (a1:Nat) (va:Option Addr) (vn vc:Nat) (h:Blk w a1 394 #[.int .i64 512,.int .i64 1073741824,.slice none 0 0,.slice none 0 0,.int .i64 0]) :
 Calls Tryz.prog 304 #[.pointer (some ⟨a1,0,none⟩),.slice va vn vc] w fun e w'=>e=.returned (.tuple #[.agg #[.int .i64 0,.int .i64 1],.int .i64 0]) /\
  ∃ g cap,1<=cap/\Blk w' a1 394 #[.int .i64 512,.int .i64 1073741824,.slice (some ⟨g,0,none⟩) 1 cap,.slice none 0 0,.int .i64 1]/\w'.ownsRow w.heap.size 418 3 (.slice (some ⟨g,0,none⟩) 1 cap) 1 [.int .i64 1,.bool true,.slice va vn vc]/\Mod (fun k=>k=a1) w w':=by
 obtain⟨i0,hi0,hz0,hz1,hz2⟩:=info_parts Tryz.infoSlotR
 have c0:=h.cell 0
 have c2:=h.cell 2
 have c3:=h.cell 3
 have c4:=h.cell 4
 have hlt:=h.lt
 simp only[List.getElem?_toArray,List.getElem?_cons_zero,List.getElem?_cons_succ] at c0 c2 c3 c4
 have HA:=Lib.hid h
 clear h
 go_enter Tryz.func304,Tryz.ntmps304
 go_wp2_with (at_builtin;refine wpList_append_lies _ rfl (.tmp 58) (.tmp 60) 392 rfl w.heap.size 418 i0 (.agg #[.int .i64 0,.bool false,.slice none 0 0]) 3 40 Tryz.underlying392 hi0 hz0 hz1 hz2 rfl (by decide) (.slice none 0 0) 0 [] rfl (World.ownsRow_nil _ _ _ _) ⟨w.heap.size+1,0,none⟩ 1 1 [.int .i64 0,.bool false,.slice none 0 0] rfl rfl ?c1 ?c2 (by decide) (by unfold maxLen;omega) (by simp) (by simp<;>omega) (w.heap.size+1+1) (by simp) ?_)
 case c1 =>
  have hnb:=World.news_of_block (Blk.new (w.alloc (.cells #[.int .i64 0,.int .i64 0] 381)) 418 #[.int .i64 0,.bool false,.slice none 0 0])
  rw[World.size_alloc] at hnb
  exact hnb
 case c2=>intro u hu;simp at hu;rcases hu with rfl | rfl | rfl<;>rfl
 intro g1 cap1 w1 hown1 hgrow1 hat1 hlt1
 have b1:=((HA.out.alloc (.cells #[.int .i64 0,.int .i64 0] 381)).alloc (.cells #[.int .i64 0,.bool false,.slice none 0 0] 418)).grown hgrow1 (by simp [Value.ownBlock])
 have hres:Blk w1 w.heap.size 381 #[.int .i64 0,.int .i64 0]:=((Blk.new w _ _).alloc _).grown hgrow1 (by simp [Value.ownBlock])
 have hm:Mod (fun k=>k=a1) w w1:=(((Mod.refl _ w).alloc _).alloc _).grown hgrow1 (by simp [Value.ownBlock])
 have e2:=b1.frozen 2
 have e4:=b1.frozen 4
 have d2:=b1.cell 2
 have d4:=b1.cell 4
 simp only[List.getElem?_toArray,List.getElem?_cons_zero,List.getElem?_cons_succ] at d2 d4
 have f0:=hown1.frozenAt 0
 have f1:=hown1.frozenAt 1
 have f2:=hown1.frozenAt 2
 have g0:=hown1.cellAt 0 (by simp)
 have g1':=hown1.cellAt 1 (by simp)
 have g2:=hown1.cellAt 2 (by simp)
 simp only[List.getElem?_cons_zero,List.getElem?_cons_succ] at g0 g1' g2
 have hgp:g1≠a1:=fun e=>own_blk_ne hown1 b1 (by decide) (by simp [Value.ownBlock,e])
 have hpg:a1≠g1:=fun e=>hgp e.symm
 have hgr:g1≠w.heap.size:=fun e=>own_blk_ne hown1 hres (by decide) (by simp [Value.ownBlock,e])
 have hrg:w.heap.size≠g1:=fun e=>hgr e.symm
 have hrp:w.heap.size≠a1:=by omega
 have hpr:a1≠w.heap.size:=by omega
 have r0:=hres.cell 0
 have r1:=hres.cell 1
 have s0:=hres.frozen 0
 have s1:=hres.frozen 1
 simp only[List.getElem?_toArray,List.getElem?_cons_zero,List.getElem?_cons_succ] at r0 r1
 have hcap:1<=cap1:=by
  rcases hown1.2 with ⟨e,_⟩ | ⟨g',cap',cur,e,_,_,q,_⟩
  ·cases e
  ·simp only[Value.slice.injEq] at e
   omega
 have hgl:w.heap.size<=g1:=(hown1.lt g1 rfl).1
 have HO:=Lib.hid hown1
 have HB:=Lib.hid b1
 have HM:=Lib.hid hm
 clear hown1 hgrow1 b1 hm hres hat1
 go_wp2_with fail
 refine bodyPost_ret (v:=.tuple #[.agg #[.int .i64 0,.int .i64 1],.int .i64 0]) (by simp [results,Tryz.results304,go_sem, *]) rfl ⟨rfl,g1,cap1,hcap,?_,?_,?_⟩
 ·have:=((((((HB.out.set_ 2 (.slice (some ⟨g1,0,none⟩) 1 cap1)).far (p:=⟨g1,0,none⟩) hpg (.int .i64 1)).far (p:=⟨g1,1,none⟩) hpg (.bool true)).far (p:=⟨g1,2,none⟩) hpg (.slice va vn vc)).set_ 4 (.int .i64 1)).far (p:=⟨w.heap.size,0,none⟩) hpr (.int .i64 0)).far (p:=⟨w.heap.size,1,none⟩) hpr (.int .i64 1)
  simpa using this
 ·have o1:=((Mod.refl (fun k=>k=a1) w1).setCell (p:=⟨a1,2,none⟩) (fun _=>rfl) (.slice (some ⟨g1,0,none⟩) 1 cap1)).ownsRow HO.out (fun k hk e=>by simp [Value.ownBlock] at hk;omega)
  have o2:=(own_set3 (k:=0) (rows:=[[.int .i64 0,.bool false,.slice none 0 0]]) (a:=.int .i64 1) (b:=.bool true) (c:=.slice va vn vc) o1 (by simp) rfl (by omega) rfl rfl rfl).1
  refine Mod.ownsRow ((((Mod.refl (fun k=>k=a1∨k=w.heap.size) _).setCell (p:=⟨a1,4,none⟩) (fun _=>.inl rfl) _).setCell (p:=⟨w.heap.size,0,none⟩) (fun _=>.inr rfl) _).setCell (p:=⟨w.heap.size,1,none⟩) (fun _=>.inr rfl) _) o2 (fun k hk e=>?_)
  simp [Value.ownBlock] at hk
  omega
 ·exact ((((((HM.out.setCell (p:=⟨a1,2,none⟩) (fun _=>rfl) _).setCell (p:=⟨g1,0,none⟩) (fun q=>absurd q (Nat.not_lt.2 hgl)) _).setCell (p:=⟨g1,1,none⟩) (fun q=>absurd q (Nat.not_lt.2 hgl)) _).setCell (p:=⟨g1,2,none⟩) (fun q=>absurd q (Nat.not_lt.2 hgl)) _).setCell (p:=⟨a1,4,none⟩) (fun _=>rfl) _).setCell (p:=⟨w.heap.size,0,none⟩) (fun q=>absurd q (Nat.lt_irrefl _)) _).setCell (p:=⟨w.heap.size,1,none⟩) (fun q=>absurd q (Nat.lt_irrefl _)) _
set_option maxHeartbeats 4000000 in
set_option maxRecDepth 100000 in
theorem afind0 (w:World) (a1 g cap:Nat) (hc:1<=cap) (x5 x6 x7:Value) (h:Blk w a1 394 #[.int .i64 512,.int .i64 1073741824,.slice (some ⟨g,0,none⟩) 1 cap,x5,x6]) (B:Nat)
 (ho:w.ownsRow B 418 3 (.slice (some ⟨g,0,none⟩) 1 cap) 1 [.int .i64 1,.bool true,x7]) :
 Calls Tryz.prog 310 #[.pointer (some ⟨a1,0,none⟩),.agg #[.int .i64 0,.int .i64 1]] w fun e w'=>e=.returned (.pointer (some ⟨g,0,none⟩))/\Below w.heap.size w w':=by
 have c0:=ho.cellAt 0 (by simp)
 have c1:=ho.cellAt 1 (by simp)
 have hgl:=World.block_lt_of_cell? w _ c0
 simp only[List.getElem?_cons_zero,List.getElem?_cons_succ] at c0 c1 hgl
 have hx:=h.cell 2
 simp only[List.getElem?_toArray,List.getElem?_cons_zero,List.getElem?_cons_succ] at hx
 have hlt:=h.lt
 clear h ho
 go_enter Tryz.func310,Tryz.ntmps310
 go_wp2
 go_quiet (fail)
 go_wp2
 go_quiet (fail)
 go_wp2
 go_quiet (fail)
 go_wp2
 go_ret
 exact⟨rfl,bdrewN (bdrewN (bdrewN (balloc (Below.refl _ _) _) _) _) _⟩
set_option maxHeartbeats 4000000 in
set_option maxRecDepth 100000 in
theorem aat0 (w:World) (a1 g cap:Nat) (hc:1<=cap) (x5 x6 x7:Value) (h:Blk w a1 394 #[.int .i64 512,.int .i64 1073741824,.slice (some ⟨g,0,none⟩) 1 cap,x5,x6]) (B:Nat)
 (ho:w.ownsRow B 418 3 (.slice (some ⟨g,0,none⟩) 1 cap) 1 [.int .i64 1,.bool true,x7]) :
 Calls Tryz.prog 282 #[.pointer (some ⟨a1,0,none⟩),.agg #[.int .i64 0,.int .i64 1]] w fun e w'=>e=.returned (.tuple #[x7,.int .i64 0])/\Below w.heap.size w w':=by
 have b0:Below w.heap.size w (w.alloc (.cells #[.int .i64 0,.int .i64 1] 381)):=balloc (Below.refl _ _) _
 have o0:=(Mod.ofBelow (F:=fun _=>False) b0).ownsRow ho (fun _ _ f=>f)
 have HF:=Lib.hid (afind0 _ a1 g cap hc x5 x6 x7 (h.below b0 h.lt) B o0)
 have HO:=Lib.hid o0
 have HB:=Lib.hid b0
 clear h ho o0 b0
 go_enter Tryz.func282,Tryz.ntmps282
 go_wp2_with fail
 refine HF.out.mono ?_
 rintro e w1 ⟨rfl,hb⟩
 have o1:=(Mod.ofBelow (F:=fun _=>False) hb).ownsRow HO.out (fun _ _ f=>f)
 have c2:=o1.cellAt 2 (by simp)
 have hgl:=World.block_lt_of_cell? _ _ c2
 simp only[List.getElem?_cons_zero,List.getElem?_cons_succ] at c2 hgl
 have HB1:=Lib.hid (bt2 HB.out hb)
 clear o1 hb
 go_wp2_with fail
 go_ret2
 exact⟨rfl,HB1.out⟩
end Go.Proofs.YtgopfpjinohncaaGreatDoor
