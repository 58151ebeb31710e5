/- Rows of the call's own: -/
import Derived.Test.YtgopfpjinohncaaGreatDoorKfF
import Derived.Test.YtgopfpjinohncaaGreatDoorRxF
set_option maxHeartbeats 8000000
set_option maxRecDepth 100000
set_option linter.unusedVariables false
namespace Go.Proofs.YtgopfpjinohncaaGreatDoor
open Go.Proofs.Tryz
open Go.RowKit
theorem fy (sz:Nat):∀ (n:Nat) (xs:List Value),xs.length=n * sz->∃ rows:List (List Value),rows.length=n/\(∀ x∈rows,x.length=sz)/\rows.flatten=xs
 | 0,xs,h=>⟨[],rfl,by simp,by simp at h;simp [h]⟩
 | n+1,xs,h=>by
   rw[Nat.succ_mul] at h
   obtain⟨rows,h1,h2,h3⟩:=fy sz n (xs.drop sz) (by rw[List.length_drop];omega)
   refine⟨xs.take sz::rows,by simp [h1],?_,by rw[List.flatten_cons,h3,List.take_append_drop]⟩
   intro x hx
   rcases List.mem_cons.1 hx with rfl | hx
   ·rw[List.length_take]
    omega
   ·exact h2 x hx
theorem fl {α:Type} {l:List α} {k:Nat} {x:α} (hk:k<l.length):(l.set k x).take (k+1)=l.take k++[x]:=by
 rw[List.take_add_one,List.take_set_of_le FA,List.getElem?_set_self hk]
 rfl
theorem tC {w:World} {g k n cap base:Nat} {e:TypeId} {rows:List (List Value)} {a b c:Value} (hown:w.ownsRow base e 3 (.slice (some ⟨g,0,none⟩) n cap) n rows.flatten) (hl:∀ x∈rows,x.length=3) (hn:rows.length=n) (hk:k<n)
 (ha:a.oneCell'=true) (hb:b.oneCell'=true) (hc:c.oneCell'=true) :
 (((w.setCell ⟨g,k * 3,none⟩ a).setCell ⟨g,k * 3+1,none⟩ b).setCell ⟨g,k * 3+2,none⟩ c).ownsRow base e 3 (.slice (some ⟨g,0,none⟩) n cap) n (rows.set k [a,b,c]).flatten /\
 aq (fun j=>j=g) w (((w.setCell ⟨g,k * 3,none⟩ a).setCell ⟨g,k * 3+1,none⟩ b).setCell ⟨g,k * 3+2,none⟩ c):=by
 have h:=gC (cells:=[a,b,c]) hown hl hn hk (by
  intro v hv
  simp only[List.mem_cons,List.not_mem_nil,or_false] at hv
  rcases hv with rfl | rfl | rfl
  ·exact ha
  ·exact hb
  ·exact hc)
 have e:w.setCells g (k * ([a,b,c]:List Value).length) [a,b,c]=((w.setCell ⟨g,k * 3,none⟩ a).setCell ⟨g,k * 3+1,none⟩ b).setCell ⟨g,k * 3+2,none⟩ c:=by
  simp [World.setCells]
 rw[e] at h
 exact⟨h.1,h.2.1⟩
theorem qE {w w':World} {g n cap base sz:Nat} {e:TypeId} {xs:List Value} {Ts:List TypeId} (hm:aq (fun j=>j=g) w w') (ho:w.ownsRow base e sz (.slice (some ⟨g,0,none⟩) n cap) n xs) (he:e∈Ts):MT 0 Ts w w':=by
 rcases ho.2 with ⟨h0,_⟩ | ⟨g',cap',cur,hv,_,hh,_⟩
 ·simp at h0
 ·simp only[Value.slice.injEq,Option.some.injEq,Addr.mk.injEq,and_true,true_and] at hv
  obtain⟨rfl,rfl⟩:=hv
  exact MT.ofMod hm hh he (Fz)
theorem mG {α:Type} {l:List α} {p:α->Prop} {k:Nat} {x:α} (h:∀ y∈l,p y) (hx:p x):∀ y∈l.set k x,p y:=by
 intro y hy
 rcases List.mem_or_eq_of_mem_set hy with h1 | rfl
 ·exact h y h1
 ·exact hx
theorem Tryz.infoRl:(prog.info? 57).map (fun i=>(i.zero,i.size,i.bytes))=some (some (.agg #[.string ⟨#[]⟩,.slice none 0 0]),2,40):=by kernel_rfl
def qx (B:Nat) (w:World) (v:Value) (l:List aU):Prop:=cL (fun k=>B<=k) w v l
theorem qH (w:World) (v:Value) (l:List aU) (h:bj w v l) (hn:l.length<=3518437208780) :
 Calls prog 9 #[v] w fun e w'=>∃ v',e=.returned v'/\qx w.heap.size w' v' l/\Below w.heap.size w w':=by
 obtain⟨ic,hic,hc0,hc1,hc2⟩:=info_parts Tryz.infoRl
 obtain⟨ad,cap,rfl,hnc,hcm⟩:=h.form
 unfold maxLen at hcm
 have HR:=Fx h
 clear h
 generalize hN:l.length=n at *
 have HN:=Fx hN
 clear hN
 go_enter func9,ntmps9
 go_wp2_with (at_make;refine wpList_make_full _ rfl _ _ 22 rfl w.heap.size 57 ic (.agg #[.string ⟨#[]⟩,.slice none 0 0]) 2 underlying22 hic hc0 hc1 _ _ _ _ n rfl rfl rfl rfl ?b2 ?b3 ?b4 ?_)
 case b2=>first | omega | (rw[hc2];omega)
 case b3=>unfold maxLen;omega
 try (case b4=>omega)
 intro w5 hown5 hgrow5
 obtain⟨ko,hr0,hr1,hr2⟩:=fy 2 n _ hown5.1
 rw[<-hr2] at hown5
 have hb5:Below w.heap.size w w5:=Below.grown Fy hgrow5 FA (fun q hq=>by cases hq)
 have HO5:=Fx hown5
 have HB5:=Fx hb5
 have HRL:=Fx (And.intro hr0 hr1)
 clear hown5 hgrow5 hb5 hr0 hr1 hr2
 go_wp2_with fail
 go_loopw [4] (fun i wr=>∃ (k:Nat) (rows:List (List Value)),k<=n/\i=.int .i64 k/\Hid (wr.ownsRow w.heap.size 57 2 (.slice (some ⟨w.heap.size,0,none⟩) n n) n rows.flatten)/\Hid (rows.length=n/\∀ x∈rows,x.length=2)/\Hid (aH (jL (fun q=>w.heap.size<q) wr) (rows.take k) (l.take k))/\Hid (Below w.heap.size w wr)) (fun i _=>n - (intOf i).toNat)
 case atStart=>exact⟨0,ko,Fz,rfl,HO5,HRL,Fx trivial,HB5⟩
 case round =>
  obtain⟨k,rows,hk,rfl,OW,RL,AL,BW⟩:=hrel
  obtain⟨wo,rfl⟩:∃ wo:World,wo=wr:=⟨_,rfl⟩
  by_cases hkn:k<n
  ·obtain⟨c,hc⟩:∃ c,l[k]? = some c:=⟨l[k]'(by rw[HN.out];exact hkn),FD (by rw[HN.out];exact hkn)⟩
   obtain⟨b,off,cap',cv,hv,_,_,hbl,q0,q1,hrow,hrl⟩:=(HR.out.keep BW.out).get hc
   rw[HN.out] at hv
   simp only[Value.slice.injEq,true_and] at hv
   obtain⟨rfl,rfl⟩:=hv
   obtain⟨ra,rc,rfl,_,_⟩:=hrow.form
   have hdk:decide ((k:Int)<0)=false:=by simp
   have hdn:decide ((n:Int)<=(k:Int))=false:=by simp;omega
   have hcr:=fun W (hW:Below wo.heap.size wo W)=>sL W ⟨c.name.toArray⟩ _ c.cols (aO.keep hrow hW) hrl
   have HCR:=Fx hcr
   have HCC:=Fx hc
   have hbw:=BW.out.size
   have hgo:w.heap.size<wo.heap.size:=(World.ownsRow.lt OW.out w.heap.size rfl).2
   clear hc hrow hcr
   generalize hCN:c.cols.length=rn at *
   have HCN:=Fx hCN
   clear hCN
   go_wp2_with fail
   refine (HCR.out _ Fy).mono ?_
   rintro e w6 ⟨u6,rfl,hown6,hb6⟩
   obtain⟨ua,uc,rfl⟩:=aB hown6
   have o6:=(MT.ofBelow (B:=0) (Ts:=[]) hb6).ownsRow OW.out (by simp)
   have HO6:=Fx o6
   have HW6:=Fx hown6
   have HB6:=Fx hb6
   clear o6 hown6 hb6
   go_wp2_with (refine dR rfl 57 _ _ rfl w.heap.size k 57 2 w.heap.size n n rows _ rfl rfl HO6.out RL.out.2 RL.out.1 hkn rfl (by kernel_rfl) (by simp [Value.oneCell']) ?_)
   intro w7 h7 m7 z7
   have hcols:bV 0 w6 (.slice ua rn uc) c.cols:=by
    unfold bV
    rw[HCN.out,<-kY]
    exact World.ownsRow.low HW6.out (Fz)
   have hinq:∀ q,(Value.slice ua rn uc).ownBlock=some q->w.heap.size<q:=fun q hq=>by
    have:=(World.ownsRow.lt HW6.out q hq).1
    omega
   have hall:∀ W',aq (fun j=>j=w.heap.size) w6 W'->aH (jL (fun q=>w.heap.size<q) W') ((rows.set k [.string ⟨c.name.toArray⟩,.slice ua rn uc]).take (k+1)) (l.take (k+1)):=by
    intro W' m6
    rw[fl (by rw[RL.out.1];exact hkn),List.take_add_one,HCC.out]
    exact aH.snoc ⟨_,rfl,m6.ownsRow hcols (fun q hq=>by have:=hinq q hq;omega),hinq⟩ (AL.out.mono fun q a hh=>(hh.mod (aq.ofBelow (F:=fun _=>False) HB6.out) (fun _ _ f=>f)).mod m6 (fun q hq=>by omega))
   have HS:=Fx h7
   have HAL:=Fx (hall _ m7)
   have HB7:=Fx (aq.own (BW.out.trans (HB6.out.mono hbw)) m7 FA)
   clear h7 m7 z7 hcols hinq hall
   go_wp2_with fail
   go_roundw
   case rel=>exact⟨k+1,_,by omega,by go_num,HS,Fx ⟨by rw[List.length_set];exact RL.out.1,mG RL.out.2 rfl⟩,HAL,HB7⟩
   case measure=>simp [intOf];omega
  ·obtain rfl:k=n:=by omega
   have hal:=AL.out
   rw[List.take_of_length_le (by rw[RL.out.1];exact FA),List.take_of_length_le (by rw[HN.out];exact FA)] at hal
   have HAL:=Fx hal
   clear hal
   go_wp2_with fail
   go_ret
   exact⟨_,rfl,⟨rows,by rw[HN.out];exact World.ownsRow.low OW.out (Fz),fun q hq=>by simp [Value.ownBlock] at hq;omega,HAL.out.mono fun b a hh=>hh.mono fun q _ hq=>Nat.le_of_lt hq⟩,BW.out⟩
