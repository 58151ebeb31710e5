/- hashidx.Index find, Get, Put at the empty key; store.Store fits, pack, slot at the. -/
import Derived.Test.YtgopfpjinohncaaGreatDoorRxF
set_option maxHeartbeats 8000000
set_option maxRecDepth 100000
set_option linter.unusedVariables false
namespace Go.Proofs.YtgopfpjinohncaaGreatDoor
open Go.Proofs.Tryz
open Go.RowKit
theorem wE {w:World} {B g n size:Nat} {e:TypeId} {xs:List Value} (h:w.ownsRow B e size (.slice (some ⟨g,0,none⟩) n n) n xs):af w g e xs.toArray:=by
 obtain⟨h1,h2 | ⟨g',cap,cur,hv,_,hb,_,_,hs,ht⟩⟩:=h
 ·exact absurd h2.1 (by simp)
 ·simp only[Value.slice.injEq,Option.some.injEq,Addr.mk.injEq,and_true,true_and] at hv
  obtain⟨rfl,rfl⟩:=hv
  have:cur=xs.toArray:=by
   rw[<-ht,List.take_of_length_le (by rw[Array.length_toList,hs];exact FA),Array.toArray_toList]
  rw[<-this];exact hb
theorem dG (w:World) (a:Option Addr) (c sz:Nat) (h:c<=maxLen):aj w (.slice a 0 c) sz []:=⟨by simp,a,c,rfl,Fz,h,.inl rfl⟩
theorem pN (w:World) (x tb:Nat) (s m p:Int) (hx:af w x 397 #[.int .i64 512,.int .i64 s,.int .i64 m,.int .i64 p,.slice (some ⟨tb,0,none⟩) 8 8]) (ht:af w tb 428 fM.toArray) (a:Option Addr) (c:Nat) :
 Calls prog 318 #[.pointer (some ⟨x,0,none⟩),.slice a 0 c] w fun e w'=>e=.returned (.tuple #[.int .i64 (-1),.int .i64 1])/\Below w.heap.size w w':=by
 have HX:=Fx hx
 have HT:=Fx ht
 clear hx ht
 go_enter func318,ntmps318
 go_wp2_with fail
 go_step3
 go_upto_region 2 with fail
 obtain⟨SS,hSS⟩:∃ SS:World->Prop,SS=fun W=>af W x 397 #[.int .i64 512,.int .i64 s,.int .i64 m,.int .i64 p,.slice (some ⟨tb,0,none⟩) 8 8]:=⟨_,rfl⟩
 have HSC:=Fx (fun W (q:SS W)=>(by rw[hSS] at q;exact q:af W x 397 #[.int .i64 512,.int .i64 s,.int .i64 m,.int .i64 p,.slice (some ⟨tb,0,none⟩) 8 8]))
 have HSI:=Fx (fun W (q:af W x 397 #[.int .i64 512,.int .i64 s,.int .i64 m,.int .i64 p,.slice (some ⟨tb,0,none⟩) 8 8])=>(by rw[hSS];exact q:SS W))
 clear hSS
 have HSS:SS w.drew:=HSI.out _ (HX.out.drew)
 refine wp_region_held_drew (by kernel_rfl) HSS (fun _=>?_)
 refine Held.tk 0 8 HSS ?_
 refine Held.tk 2 10 HSS ?_
 refine Held.tk 3 11 HSS ?_
 refine Held.tk 4 12 HSS ?_
 refine Held.take 5 13 (v:=?_) rfl rfl (by kernel_rfl) (by kernel_rfl) (by kernel_rfl) (fun _ _ _ _ h=>h) (by kernel_rfl) HSS ?_ ?_
 rotate_left
 ·intro u hu
  have r1:=HSC.out u hu
  have x4:=(r1).cell 4
  have xl:=(r1).lt
  simp only[FF] at x4
  go_simp
  try with_reducible rfl
 try simp only[FG]
 refine Held.tk 6 14 HSS ?_
 refine Held.tk 7 15 HSS ?_
 refine Held.tk 8 16 HSS ?_
 refine Held.one 1 rfl (by kernel_rfl) (fun K hK=>?_)
 go_simp
 refine (Be _ _ _).mono ?_
 rintro e w1 ⟨rfl,rfl⟩
 refine hK.out _ _ HSS ?_
 clear hK K
 try simp only[FG]
 refine Held.tk 9 17 HSS ?_
 refine Held.tk 10 18 HSS ?_
 refine Held.tk 11 6 HSS ?_
 refine wpAnyH_done (by kernel_rfl) ?_ _
 clear HSS HSC HSI
 have x4:=HX.out.drew.cell 4
 have xl:=HX.out.drew.lt
 have t3:=HT.out.drew.cell 3
 have tl:=HT.out.drew.lt
 simp only[fM,FF] at x4 t3
 go_wp2_with fail
 go_step3
 go_wp2_with fail
 go_loopw [24,6,5] (fun k i f wr=>k=.int .i64 0/\i=.int .i64 1/\f=.int .i64 (-1)/\wr=w.drew) (fun _ _ _ _=>0)
 case atStart=>exact⟨rfl,rfl,rfl,rfl⟩
 case round =>
  obtain⟨rfl,rfl,rfl,rfl⟩:=hrel
  go_wp2_with fail
  simp only[Exit.noGoto]
  go_ret2
  exact⟨rfl,ay Fy⟩
theorem Br (w:World) (x tb:Nat) (hx:af w x 397 #[.int .i64 512,.int .i64 0,.int .i64 0,.int .i64 0,.slice (some ⟨tb,0,none⟩) 8 8]) (ht:af w tb 428 fM.toArray) (a:Option Addr) (c:Nat) :
 Calls prog 296 #[.pointer (some ⟨x,0,none⟩),.slice a 0 c] w fun e w'=>e=.returned (.tuple #[.int .i64 0,.bool false])/\af w' x 397 #[.int .i64 512,.int .i64 0,.int .i64 0,.int .i64 1,.slice (some ⟨tb,0,none⟩) 8 8]/\aq (fun k=>k=x) w w':=by
 have hd:aq (fun k=>k=x) w (w.setCell ⟨x,3,none⟩ (.int .i64 1)):=(aq.refl (fun k=>k=x) w).setCell (p:=⟨x,3,none⟩) (fun _=>rfl) _
 have h1:af (w.setCell ⟨x,3,none⟩ (.int .i64 1)) x 397 #[.int .i64 512,.int .i64 0,.int .i64 0,.int .i64 1,.slice (some ⟨tb,0,none⟩) 8 8]:=by simpa using hx.set_ 3 (.int .i64 1)
 have h2:=ht.mod hd (ht.ne_ hx (by decide))
 have HF:=Fx (pN _ x tb 0 0 1 h1 h2 a c)
 have H1:=Fx h1
 have HD:=Fx hd
 have x3:=hx.cell 3
 have xf:=hx.frozen 3
 have xl:=hx.lt
 simp only[FF] at x3
 clear hx ht hd h1 h2
 go_enter func296,ntmps296
 go_wp2_with fail
 refine HF.out.mono ?_
 rintro e w1 ⟨rfl,hb⟩
 have HB:=Fx hb
 clear hb x3 xf xl
 go_wp2_with fail
 go_ret2
 exact⟨rfl,H1.out.below HB.out H1.out.lt,HD.out.trans (aq.ofBelow (F:=fun _=>False) HB.out) (fun _ _ f=>f.elim)⟩
theorem wh (w:World):Calls prog 326 #[.slice none 0 0] w fun e w'=>e=.returned (.slice none 0 0)/\w'=w:=by
 have heq:=fun (w:World) (a:Option Addr) (n c:Nat)=>Lib.run_eql_slice_nil (P:=prog) w 154 5 a n c 0 0 underlying154
 go_enter func326,ntmps326
 go_wp2_with fail
 go_ret
 exact⟨rfl,rfl⟩
theorem yu (w:World) (x tb:Nat) (n:Int) (hx:af w x 397 #[.int .i64 512,.int .i64 0,.int .i64 0,.int .i64 1,.slice (some ⟨tb,0,none⟩) 8 8]) (ht:af w tb 428 fM.toArray) :
 Calls prog 305 #[.pointer (some ⟨x,0,none⟩),.slice none 0 0,.int .i64 n] w fun e w'=>e=.returned (.tuple #[.int .i64 0,.bool false,.int .i64 0])/\aq (fun k=>k=x∨k=tb) w w':=by
 have hd:aq (fun k=>k=x∨k=tb) w (w.setCell ⟨x,3,none⟩ (.int .i64 2)):=(aq.refl (fun k=>k=x∨k=tb) w).setCell (p:=⟨x,3,none⟩) (fun _=>Or.inl rfl) _
 have hd':aq (fun k=>k=x) w (w.setCell ⟨x,3,none⟩ (.int .i64 2)):=(aq.refl (fun k=>k=x) w).setCell (p:=⟨x,3,none⟩) (fun _=>rfl) _
 have h1:af (w.setCell ⟨x,3,none⟩ (.int .i64 2)) x 397 #[.int .i64 512,.int .i64 0,.int .i64 0,.int .i64 2,.slice (some ⟨tb,0,none⟩) 8 8]:=by simpa using hx.set_ 3 (.int .i64 2)
 have h2:=ht.mod hd' (ht.ne_ hx (by decide))
 have HF:=Fx (pN _ x tb 0 0 2 h1 h2 none 0)
 have H1:=Fx h1
 have H2:=Fx h2
 have HD:=Fx hd
 have HNE:=Fx (ht.ne_ hx (by decide))
 have x3:=hx.cell 3
 have xf:=hx.frozen 3
 have xl:=hx.lt
 simp only[FF] at x3
 clear hx ht hd hd' h1 h2
 go_enter func305,ntmps305
 go_wp2_with fail
 refine HF.out.mono ?_
 rintro e w1 ⟨rfl,hb⟩
 have k1:=H1.out.below hb H1.out.lt
 have k2:=H2.out.below hb H2.out.lt
 have HD1:=Fx (HD.out.trans (aq.ofBelow (F:=fun _=>False) hb) (fun _ _ f=>f.elim))
 have K1:=Fx k1
 have K2:=Fx k2
 clear hb x3 xf xl HF HD H1 H2 k1 k2
 go_wp2_with fail
 have x0:=K1.out.cell 0
 have x1:=K1.out.cell 1
 have xl:=K1.out.lt
 simp only[FF] at x0 x1
 go_quiet (fail)
 obtain⟨v1,hv1⟩:∃ v1,w1.drewN nq=v1:=⟨_,rfl⟩
 have J1:=Fx (K1.out.drewN nq)
 have J2:=Fx (K2.out.drewN nq)
 have JD:=Fx (HD1.out.drewN nq)
 rw[hv1] at J1 J2 JD ⊢
 clear hv1 x0 x1 xl K1 K2 HD1
 have x1:=J1.out.cell 1
 have xl:=J1.out.lt
 have x2:=J1.out.cell 2
 have x4:=J1.out.cell 4
 simp only[FF] at x1 x2 x4
 go_wp2_with fail
 go_quiet (fail)
 have HK1:=Fx (J1.out.drewN nq)
 have HK2:=Fx (J2.out.drewN nq)
 have HD2:=Fx (JD.out.drewN nq)
 clear x1 x2 x4 xl J1 J2 JD
 obtain⟨w2,hw2⟩:∃ w2,v1.drewN nq=w2:=⟨_,rfl⟩
 rw[hw2] at HK1 HK2 HD2 ⊢
 clear hw2
 have x4:=HK1.out.cell 4
 have xl:=HK1.out.lt
 have t3:=HK2.out.cell 3
 have tl:=HK2.out.lt
 simp only[fM,FF] at x4 t3
 go_upto_region 15 with fail
 clear x4 xl t3 tl
 obtain⟨SS,hSS⟩:∃ SS:World->Prop,SS=fun W=>af W x 397 #[.int .i64 512,.int .i64 0,.int .i64 0,.int .i64 2,.slice (some ⟨tb,0,none⟩) 8 8]:=⟨_,rfl⟩
 have HSC:=Fx (fun W (q:SS W)=>(by rw[hSS] at q;exact q:af W x 397 #[.int .i64 512,.int .i64 0,.int .i64 0,.int .i64 2,.slice (some ⟨tb,0,none⟩) 8 8]))
 have HSI:=Fx (fun W (q:af W x 397 #[.int .i64 512,.int .i64 0,.int .i64 0,.int .i64 2,.slice (some ⟨tb,0,none⟩) 8 8])=>(by rw[hSS];exact q:SS W))
 clear hSS
 have HSS:SS w2.drew:=HSI.out _ (HK1.out.drew)
 refine wp_region_held_drew (by kernel_rfl) HSS (fun _=>?_)
 refine Held.tk 0 97 HSS ?_
 refine Held.tk 1 98 HSS ?_
 refine Held.tk 2 99 HSS ?_
 refine Held.take 3 100 (v:=?_) rfl rfl (by kernel_rfl) (by kernel_rfl) (by kernel_rfl) (fun _ _ _ _ h=>h) (by kernel_rfl) HSS ?_ ?_
 rotate_left
 ·intro u hu
  have r1:=HSC.out u hu
  have x4:=(r1).cell 4
  have xl:=(r1).lt
  simp only[FF] at x4
  go_simp
  try with_reducible rfl
 try simp only[FG]
 refine Held.tk 4 101 HSS ?_
 refine Held.tk 5 102 HSS ?_
 refine Held.tk 7 104 HSS ?_
 refine Held.one 6 rfl (by kernel_rfl) (fun K hK=>?_)
 go_simp
 refine (wh _).mono ?_
 rintro e w3 ⟨rfl,rfl⟩
 refine hK.out _ _ HSS ?_
 clear hK K
 try simp only[FG]
 refine Held.tk 8 105 HSS ?_
 refine Held.tk 9 106 HSS ?_
 refine Held.one 10 rfl (by kernel_rfl) (fun K hK=>?_)
 have t3:=HK2.out.cell 3
 have t4:=HK2.out.cell 4
 have t5:=HK2.out.cell 5
 have f3:=HK2.out.frozen 3
 have f4:=HK2.out.frozen 4
 have f5:=HK2.out.frozen 5
 have tl:=HK2.out.lt
 simp only[fM,FF] at t3 t4 t5
 go_simp
 refine hK.out _ _ (HSI.out _ (((HK1.out.far (p:=⟨tb,3,none⟩) (fun e=>HNE.out e.symm) _).far (p:=⟨tb,4,none⟩) (fun e=>HNE.out e.symm) _).far (p:=⟨tb,5,none⟩) (fun e=>HNE.out e.symm) _).drew) ?_
 clear hK K t3 t4 t5 f3 f4 f5 tl
 try simp only[FG]
 refine wpAnyH_done (by kernel_rfl) ?_ _
 clear HSS HSC HSI
 have HX3:=Fx ((((HK1.out.far (p:=⟨tb,3,none⟩) (fun e=>HNE.out e.symm) (.int .u8 1)).far (p:=⟨tb,4,none⟩) (fun e=>HNE.out e.symm) (.slice none 0 0)).far (p:=⟨tb,5,none⟩) (fun e=>HNE.out e.symm) (.int .i64 n)).drew)
 have HD3:=Fx ((((HD2.out.setCell (p:=⟨tb,3,none⟩) (fun _=>Or.inr rfl) (.int .u8 1)).setCell (p:=⟨tb,4,none⟩) (fun _=>Or.inr rfl) (.slice none 0 0)).setCell (p:=⟨tb,5,none⟩) (fun _=>Or.inr rfl) (.int .i64 n)).drew)
 obtain⟨w3,hw3⟩:∃ w3,(((w2.setCell ⟨tb,3,none⟩ (.int .u8 1)).setCell ⟨tb,4,none⟩ (.slice none 0 0)).setCell ⟨tb,5,none⟩ (.int .i64 n)).drew=w3:=⟨_,rfl⟩
 rw[hw3] at HX3 HD3 ⊢
 clear hw3
 have x1:=HX3.out.cell 1
 have xf:=HX3.out.frozen 1
 have xl:=HX3.out.lt
 simp only[FF] at x1
 go_wp2_with fail
 go_ret3
 exact⟨rfl,HD3.out.setCell (p:=⟨x,1,none⟩) (fun _=>Or.inl rfl) _⟩
theorem zG (w:World) (a:Option Addr) (c:Nat) (hc:c<=maxLen):Calls prog 74 #[.slice a 0 c] w fun e w'=>e=.returned (.bool true)/\Below w.heap.size w w' :=
 dO w (.slice a 0 c) [] (dG w a c 3 hc)
theorem DH (w:World) (st:Nat) (cs:Array Value) (a:Option Addr) (c:Nat) (hs:af w st 326 cs) (h0:cs[0]? = some (.int .i64 0)) (hc:c<=maxLen) :
 Calls prog 273 #[.pointer (some ⟨st,0,none⟩),.slice a 0 c] w fun e w'=>e=.returned (.bool true)/\Below w.heap.size w w':=by
 have x0:=hs.cell 0
 rw[h0] at x0
 have xl:=hs.lt
 have HV:=Fx (zG w a c hc)
 clear hs h0
 go_enter func273,ntmps273
 go_wp2_with fail
 refine HV.out.mono ?_
 rintro e w1 ⟨rfl,hb⟩
 have HB:=Fx hb
 clear hb x0 xl
 go_wp2_with fail
 go_ret
 exact⟨rfl,HB.out⟩
theorem Ei (w:World) (a:Option Addr) (c:Nat) (hc:c<=maxLen):Calls prog 319 #[.slice a 0 c] w fun e w'=>e=.returned (.tuple #[.slice none 0 0,.int .i64 0])/\Below w.heap.size w w':=by
 have HV:=Fx (zG w a c hc)
 go_enter func319,ntmps319
 go_wp2_with fail
 refine HV.out.mono ?_
 rintro e w1 ⟨rfl,hb⟩
 have HB:=Fx hb
 clear hb
 go_wp2_with fail
 go_loopw [18,4] (fun i v wr=>i=.int .i64 0/\v=.slice none 0 0/\wr=w1) (fun _ _ _=>0)
 case atStart=>exact⟨rfl,rfl,rfl⟩
 case round =>
  obtain⟨rfl,rfl,hwr⟩:=hrel
  have hwr':=hwr.symm
  subst hwr'
  go_wp2_with fail
  go_ret2
  exact⟨rfl,HB.out⟩
theorem DI (w:World) (a:Option Addr) (c:Nat) (hc:c<=maxLen):Calls prog 297 #[.slice a 0 c] w fun e w'=>e=.returned (.slice none 0 0)/\Below w.heap.size w w':=by
 have HV:=Fx (Ei w a c hc)
 go_enter func297,ntmps297
 go_wp2_with fail
 refine HV.out.mono ?_
 rintro e w1 ⟨rfl,hb⟩
 have HB:=Fx hb
 clear hb
 go_wp2_with fail
 go_ret
 exact⟨rfl,HB.out⟩
theorem EH (w:World) (a1:Nat) (cs:Array Value) (n:Int) (hs:af w a1 394 cs) (h4:cs[4]? = some (.int .i64 n)):Calls prog 309 #[.pointer (some ⟨a1,0,none⟩)] w fun e w'=>e=.returned (.int .i64 n)/\w'=w:=by
 have x4:=hs.cell 4
 rw[h4] at x4
 have xl:=hs.lt
 clear hs h4
 go_enter func309,ntmps309
 go_wp2_with fail
 go_ret
 exact⟨rfl,rfl⟩
theorem EA (w:World) (st a1:Nat) (ds cs:Array Value) (n:Int) (hd:af w st 326 ds) (hd4:ds[4]? = some (.pointer (some ⟨a1,0,none⟩))) (hs:af w a1 394 cs) (h4:cs[4]? = some (.int .i64 n)):Calls prog 278 #[.pointer (some ⟨st,0,none⟩)] w fun e w'=>e=.returned (.int .i64 n)/\w'=w:=by
 have HA:=Fx (EH w a1 cs n hs h4)
 have x4:=hd.cell 4
 rw[hd4] at x4
 have xl:=hd.lt
 clear hd hd4 hs h4
 go_enter func278,ntmps278
 go_wp2_with fail
 refine HA.out.mono ?_
 rintro e w1 ⟨rfl,rfl⟩
 go_wp2_with fail
 go_ret
 exact⟨rfl,rfl⟩
theorem EW (w:World) (st x tb:Nat) (cs:Array Value) (a:Option Addr) (c:Nat) (hs:af w st 326 cs) (h0:cs[0]? = some (.int .i64 0)) (h6:cs[6]? = some (.pointer (some ⟨x,0,none⟩))) (hx:af w x 397 #[.int .i64 512,.int .i64 0,.int .i64 0,.int .i64 0,.slice (some ⟨tb,0,none⟩) 8 8]) (ht:af w tb 428 fM.toArray) (hc:c<=maxLen) :
 Calls prog 274 #[.pointer (some ⟨st,0,none⟩),.slice a 0 c] w fun e w'=>e=.returned (.int .i64 (-1))/\af w' x 397 #[.int .i64 512,.int .i64 0,.int .i64 0,.int .i64 1,.slice (some ⟨tb,0,none⟩) 8 8]/\aq (fun k=>k=x) w w':=by
 have HF:=Fx (DH w st cs a c hs h0 hc)
 have HS:=Fx hs
 have H6:=Fx h6
 have HX:=Fx hx
 have HT:=Fx ht
 clear hs h0 h6 hx ht
 go_enter func274,ntmps274
 go_wp2_with fail
 refine HF.out.mono ?_
 rintro e w1 ⟨rfl,hb⟩
 have HS1:=Fx (HS.out.below hb HS.out.lt)
 have HX1:=Fx (HX.out.below hb HX.out.lt)
 have HT1:=Fx (HT.out.below hb HT.out.lt)
 have HD1:=Fx (aq.ofBelow (F:=fun k=>k=x) hb)
 clear hb HS HX HT HF
 go_wp2_with fail
 obtain⟨SS,hSS⟩:∃ SS:World->Prop,SS=fun W=>af W st 326 cs:=⟨_,rfl⟩
 have HSC:=Fx (fun W (q:SS W)=>(by rw[hSS] at q;exact q:af W st 326 cs))
 have HSI:=Fx (fun W (q:af W st 326 cs)=>(by rw[hSS];exact q:SS W))
 clear hSS
 have HSS:SS w1.drew:=HSI.out _ (HS1.out.drew)
 refine wp_region_held_drew (by kernel_rfl) HSS (fun _=>?_)
 refine Held.tk 0 12 HSS ?_
 refine Held.tk 1 13 HSS ?_
 refine Held.tk 2 14 HSS ?_
 refine Held.take 3 15 (v:=?_) rfl rfl (by kernel_rfl) (by kernel_rfl) (by kernel_rfl) (fun _ _ _ _ h=>h) (by kernel_rfl) HSS ?_ ?_
 rotate_left
 ·intro u hu
  have x6:=(HSC.out u hu).cell 6
  rw[H6.out] at x6
  have xl:=(HSC.out u hu).lt
  go_simp
  try with_reducible rfl
 try simp only[FG]
 refine Held.tk 4 16 HSS ?_
 refine Held.one 5 rfl (by kernel_rfl) (fun K hK=>?_)
 go_simp
 refine (DI _ a c hc).mono ?_
 rintro e w2 ⟨rfl,hb⟩
 have HX2:=Fx (HX1.out.drew.below hb HX1.out.lt)
 have HT2:=Fx (HT1.out.drew.below hb HT1.out.lt)
 have HD2:=Fx (HD1.out.drew.trans (aq.ofBelow (F:=fun _=>False) hb) (fun _ _ f=>f.elim))
 clear HSS
 have HSS:=HSI.out w2 (HS1.out.drew.below hb HS1.out.lt)
 have HS2:=Fx (HS1.out.drew.below hb HS1.out.lt)
 clear hb
 refine hK.out _ _ HSS ?_
 clear hK K
 try simp only[FG]
 refine Held.one 6 rfl (by kernel_rfl) (fun K hK=>?_)
 go_simp
 refine (Br _ x tb HX2.out HT2.out none 0).mono ?_
 rintro e w3 ⟨rfl,hx3,hd3⟩
 have HX3:=Fx hx3
 have HD3:=Fx (HD2.out.trans hd3 (fun _ _ f=>f))
 clear HSS
 have HSS:=HSI.out w3 (HS2.out.mod hd3 (HS2.out.ne_ HX2.out (by decide)))
 clear hx3 hd3
 refine hK.out _ _ HSS ?_
 clear hK K
 try simp only[FG]
 refine Held.tk 7 11 HSS ?_
 refine Held.tk 8 19 HSS ?_
 refine Held.tk 9 20 HSS ?_
 refine Held.tk 10 5 HSS ?_
 refine Held.tk 11 6 HSS ?_
 refine wpAnyH_done (by kernel_rfl) ?_ _
 clear HSS HSC HSI
 go_wp2_with fail
 go_ret
 exact⟨rfl,HX3.out,HD3.out⟩
