/- hashidx.Index find, Get, Put at the empty key; store.Store fits, pack, slot at the empty row; walked (printed by mkst4.py). store.Store fits, pack, slot, Len at the empty row, row.Pack; walked (printed by mkst5.py). -/
import Derived.Test.YtgopfpjinohncaaGreatDoorCyL
import Derived.Test.YtgopfpjinohncaaGreatDoorRxL
import Derived.WalkMore
namespace Go.Proofs.YtgopfpjinohncaaGreatDoor
open Go.RowKit
set_option linter.unusedVariables false
theorem own_blk {w:World} {B g n size:Nat} {e:TypeId} {xs:List Value} (h:w.ownsRow B e size (.slice (some ⟨g,0,none⟩) n n) n xs):Blk w g e xs.toArray:=by
 obtain⟨h1,h2 | ⟨g',cap,cur,hv,_,hb,_,_,hs,ht⟩⟩:=h
 ·exact absurd h2.1 (by simp)
 ·simp only[Value.slice.injEq,Option.some.injEq,Addr.mk.injEq,and_true,true_and] at hv
  obtain⟨rfl,rfl⟩:=hv
  have:cur=xs.toArray:=by
   rw[<-ht,List.take_of_length_le (by rw[Array.length_toList,hs];exact Nat.le_refl _),Array.toArray_toList]
  rw[<-this];exact hb
theorem rowAt_nil (w:World) (a:Option Addr) (c sz:Nat) (h:c<=maxLen):RowAt w (.slice a 0 c) sz []:=⟨by simp,a,c,rfl,Nat.zero_le _,h,.inl rfl⟩
set_option maxHeartbeats 4000000 in
set_option maxRecDepth 100000 in
theorem find_any0 (w:World) (x tb:Nat) (s m p:Int) (hx:Blk w x 397 #[.int .i64 512,.int .i64 s,.int .i64 m,.int .i64 p,.slice (some ⟨tb,0,none⟩) 8 8]) (ht:Blk w tb 428 zeroP.toArray) (a:Option Addr) (c:Nat) :
 Calls Tryz.prog 318 #[.pointer (some ⟨x,0,none⟩),.slice a 0 c] w fun e w'=>e=.returned (.tuple #[.int .i64 (-1),.int .i64 1])/\Below w.heap.size w w':=by
 have HX:=Lib.hid hx
 have HT:=Lib.hid ht
 clear hx ht
 go_enter Tryz.func318,Tryz.ntmps318
 go_wp2_with fail
 go_step3
 go_upto_region 2 with fail
 obtain⟨SS,hSS⟩:∃ SS:World->Prop,SS=fun W=>Blk W x 397 #[.int .i64 512,.int .i64 s,.int .i64 m,.int .i64 p,.slice (some ⟨tb,0,none⟩) 8 8]:=⟨_,rfl⟩
 have HSC:=Lib.hid (fun W (q:SS W)=>(by rw[hSS] at q;exact q:Blk W x 397 #[.int .i64 512,.int .i64 s,.int .i64 m,.int .i64 p,.slice (some ⟨tb,0,none⟩) 8 8]))
 have HSI:=Lib.hid (fun W (q:Blk W x 397 #[.int .i64 512,.int .i64 s,.int .i64 m,.int .i64 p,.slice (some ⟨tb,0,none⟩) 8 8])=>(by rw[hSS];exact q:SS W))
 clear hSS
 have HSS:SS w.drew:=HSI.out _ (HX.out.drew)
 refine wp_region_held_drew (by kernel_rfl) HSS (fun _=>?_)
 refine Held.take 0 8 (v:=?_) rfl rfl (by kernel_rfl) (by kernel_rfl) (by kernel_rfl) (fun _ _ _ _ h=>h) (by kernel_rfl) HSS ?_ ?_
 rotate_left
 ·intro u hu
  go_simp
  try with_reducible rfl
 try simp only[List.setIfInBounds_toArray,List.set_cons_succ,List.set_cons_zero]
 refine Held.take 2 10 (v:=?_) rfl rfl (by kernel_rfl) (by kernel_rfl) (by kernel_rfl) (fun _ _ _ _ h=>h) (by kernel_rfl) HSS ?_ ?_
 rotate_left
 ·intro u hu
  go_simp
  try with_reducible rfl
 try simp only[List.setIfInBounds_toArray,List.set_cons_succ,List.set_cons_zero]
 refine Held.take 3 11 (v:=?_) rfl rfl (by kernel_rfl) (by kernel_rfl) (by kernel_rfl) (fun _ _ _ _ h=>h) (by kernel_rfl) HSS ?_ ?_
 rotate_left
 ·intro u hu
  go_simp
  try with_reducible rfl
 try simp only[List.setIfInBounds_toArray,List.set_cons_succ,List.set_cons_zero]
 refine Held.take 4 12 (v:=?_) rfl rfl (by kernel_rfl) (by kernel_rfl) (by kernel_rfl) (fun _ _ _ _ h=>h) (by kernel_rfl) HSS ?_ ?_
 rotate_left
 ·intro u hu
  go_simp
  try with_reducible rfl
 try simp only[List.setIfInBounds_toArray,List.set_cons_succ,List.set_cons_zero]
 refine Held.take 5 13 (v:=?_) rfl rfl (by kernel_rfl) (by kernel_rfl) (by kernel_rfl) (fun _ _ _ _ h=>h) (by kernel_rfl) HSS ?_ ?_
 rotate_left
 ·intro u hu
  have r1:=HSC.out u hu
  have x4:=(r1).cell 4
  have xl:=(r1).lt
  simp only[List.getElem?_toArray,List.getElem?_cons_zero,List.getElem?_cons_succ] at x4
  go_simp
  try with_reducible rfl
 try simp only[List.setIfInBounds_toArray,List.set_cons_succ,List.set_cons_zero]
 refine Held.take 6 14 (v:=?_) rfl rfl (by kernel_rfl) (by kernel_rfl) (by kernel_rfl) (fun _ _ _ _ h=>h) (by kernel_rfl) HSS ?_ ?_
 rotate_left
 ·intro u hu
  go_simp
  try with_reducible rfl
 try simp only[List.setIfInBounds_toArray,List.set_cons_succ,List.set_cons_zero]
 refine Held.take 7 15 (v:=?_) rfl rfl (by kernel_rfl) (by kernel_rfl) (by kernel_rfl) (fun _ _ _ _ h=>h) (by kernel_rfl) HSS ?_ ?_
 rotate_left
 ·intro u hu
  go_simp
  try with_reducible rfl
 try simp only[List.setIfInBounds_toArray,List.set_cons_succ,List.set_cons_zero]
 refine Held.take 8 16 (v:=?_) rfl rfl (by kernel_rfl) (by kernel_rfl) (by kernel_rfl) (fun _ _ _ _ h=>h) (by kernel_rfl) HSS ?_ ?_
 rotate_left
 ·intro u hu
  go_simp
  try with_reducible rfl
 try simp only[List.setIfInBounds_toArray,List.set_cons_succ,List.set_cons_zero]
 refine Held.one 1 rfl (by kernel_rfl) (fun K hK=>?_)
 go_simp
 refine (hash_any _ _ _).mono ?_
 rintro e w1 ⟨rfl,rfl⟩
 refine hK.out _ _ HSS ?_
 clear hK K
 try simp only[List.setIfInBounds_toArray,List.set_cons_succ,List.set_cons_zero]
 refine Held.take 9 17 (v:=?_) rfl rfl (by kernel_rfl) (by kernel_rfl) (by kernel_rfl) (fun _ _ _ _ h=>h) (by kernel_rfl) HSS ?_ ?_
 rotate_left
 ·intro u hu
  go_simp
  try with_reducible rfl
 try simp only[List.setIfInBounds_toArray,List.set_cons_succ,List.set_cons_zero]
 refine Held.take 10 18 (v:=?_) rfl rfl (by kernel_rfl) (by kernel_rfl) (by kernel_rfl) (fun _ _ _ _ h=>h) (by kernel_rfl) HSS ?_ ?_
 rotate_left
 ·intro u hu
  go_simp
  try with_reducible rfl
 try simp only[List.setIfInBounds_toArray,List.set_cons_succ,List.set_cons_zero]
 refine Held.take 11 6 (v:=?_) rfl rfl (by kernel_rfl) (by kernel_rfl) (by kernel_rfl) (fun _ _ _ _ h=>h) (by kernel_rfl) HSS ?_ ?_
 rotate_left
 ·intro u hu
  go_simp
  try with_reducible rfl
 try simp only[List.setIfInBounds_toArray,List.set_cons_succ,List.set_cons_zero]
 refine wpAnyH_done (by kernel_rfl) ?_ _
 clear HSS HSC HSI
 have x4:=HX.out.drew.cell 4
 have xl:=HX.out.drew.lt
 have t3:=HT.out.drew.cell 3
 have tl:=HT.out.drew.lt
 simp only[zeroP,List.getElem?_toArray,List.getElem?_cons_zero,List.getElem?_cons_succ] at x4 t3
 go_wp2_with fail
 go_step3
 go_wp2_with fail
 go_loopw [24,6,5] (fun k i f wr=>k=.int .i64 0/\i=.int .i64 1/\f=.int .i64 (-1)/\wr=w.drew) (fun _ _ _ _=>0)
 case atStart=>exact⟨rfl,rfl,rfl,rfl⟩
 case round =>
  obtain⟨rfl,rfl,rfl,rfl⟩:=hrel
  go_wp2_with fail
  simp only[Exit.noGoto]
  go_ret2
  exact⟨rfl,bdrew (Below.refl _ _)⟩
set_option maxHeartbeats 4000000 in
set_option maxRecDepth 100000 in
theorem get_any0 (w:World) (x tb:Nat) (hx:Blk w x 397 #[.int .i64 512,.int .i64 0,.int .i64 0,.int .i64 0,.slice (some ⟨tb,0,none⟩) 8 8]) (ht:Blk w tb 428 zeroP.toArray) (a:Option Addr) (c:Nat) :
 Calls Tryz.prog 296 #[.pointer (some ⟨x,0,none⟩),.slice a 0 c] w fun e w'=>e=.returned (.tuple #[.int .i64 0,.bool false])/\Blk w' x 397 #[.int .i64 512,.int .i64 0,.int .i64 0,.int .i64 1,.slice (some ⟨tb,0,none⟩) 8 8]/\Mod (fun k=>k=x) w w':=by
 have hd:Mod (fun k=>k=x) w (w.setCell ⟨x,3,none⟩ (.int .i64 1)):=(Mod.refl (fun k=>k=x) w).setCell (p:=⟨x,3,none⟩) (fun _=>rfl) _
 have h1:Blk (w.setCell ⟨x,3,none⟩ (.int .i64 1)) x 397 #[.int .i64 512,.int .i64 0,.int .i64 0,.int .i64 1,.slice (some ⟨tb,0,none⟩) 8 8]:=by simpa using hx.set_ 3 (.int .i64 1)
 have h2:=ht.mod hd (ht.ne_ hx (by decide))
 have HF:=Lib.hid (find_any0 _ x tb 0 0 1 h1 h2 a c)
 have H1:=Lib.hid h1
 have HD:=Lib.hid hd
 have x3:=hx.cell 3
 have xf:=hx.frozen 3
 have xl:=hx.lt
 simp only[List.getElem?_toArray,List.getElem?_cons_zero,List.getElem?_cons_succ] at x3
 clear hx ht hd h1 h2
 go_enter Tryz.func296,Tryz.ntmps296
 go_wp2_with fail
 refine HF.out.mono ?_
 rintro e w1 ⟨rfl,hb⟩
 have HB:=Lib.hid hb
 clear hb x3 xf xl
 go_wp2_with fail
 go_ret2
 exact⟨rfl,H1.out.below HB.out H1.out.lt,HD.out.trans (Mod.ofBelow (F:=fun _=>False) HB.out) (fun _ _ f=>f.elim)⟩
set_option maxRecDepth 100000 in
theorem cloneB_nil (w:World):Calls Tryz.prog 326 #[.slice none 0 0] w fun e w'=>e=.returned (.slice none 0 0)/\w'=w:=by
 have heq:=fun (w:World) (a:Option Addr) (n c:Nat)=>Lib.run_eql_slice_nil (P:=Tryz.prog) w 154 5 a n c 0 0 Tryz.underlying154
 go_enter Tryz.func326,Tryz.ntmps326
 go_wp2_with fail
 go_ret
 exact⟨rfl,rfl⟩
set_option maxHeartbeats 8000000 in
set_option maxRecDepth 100000 in
theorem hput_any0 (w:World) (x tb:Nat) (n:Int) (hx:Blk w x 397 #[.int .i64 512,.int .i64 0,.int .i64 0,.int .i64 1,.slice (some ⟨tb,0,none⟩) 8 8]) (ht:Blk w tb 428 zeroP.toArray) :
 Calls Tryz.prog 305 #[.pointer (some ⟨x,0,none⟩),.slice none 0 0,.int .i64 n] w fun e w'=>e=.returned (.tuple #[.int .i64 0,.bool false,.int .i64 0])/\Mod (fun k=>k=x∨k=tb) w w':=by
 have hd:Mod (fun k=>k=x∨k=tb) w (w.setCell ⟨x,3,none⟩ (.int .i64 2)):=(Mod.refl (fun k=>k=x∨k=tb) w).setCell (p:=⟨x,3,none⟩) (fun _=>Or.inl rfl) _
 have hd':Mod (fun k=>k=x) w (w.setCell ⟨x,3,none⟩ (.int .i64 2)):=(Mod.refl (fun k=>k=x) w).setCell (p:=⟨x,3,none⟩) (fun _=>rfl) _
 have h1:Blk (w.setCell ⟨x,3,none⟩ (.int .i64 2)) x 397 #[.int .i64 512,.int .i64 0,.int .i64 0,.int .i64 2,.slice (some ⟨tb,0,none⟩) 8 8]:=by simpa using hx.set_ 3 (.int .i64 2)
 have h2:=ht.mod hd' (ht.ne_ hx (by decide))
 have HF:=Lib.hid (find_any0 _ x tb 0 0 2 h1 h2 none 0)
 have H1:=Lib.hid h1
 have H2:=Lib.hid h2
 have HD:=Lib.hid hd
 have HNE:=Lib.hid (ht.ne_ hx (by decide))
 have x3:=hx.cell 3
 have xf:=hx.frozen 3
 have xl:=hx.lt
 simp only[List.getElem?_toArray,List.getElem?_cons_zero,List.getElem?_cons_succ] at x3
 clear hx ht hd hd' h1 h2
 go_enter Tryz.func305,Tryz.ntmps305
 go_wp2_with fail
 refine HF.out.mono ?_
 rintro e w1 ⟨rfl,hb⟩
 have k1:=H1.out.below hb H1.out.lt
 have k2:=H2.out.below hb H2.out.lt
 have HD1:=Lib.hid (HD.out.trans (Mod.ofBelow (F:=fun _=>False) hb) (fun _ _ f=>f.elim))
 have K1:=Lib.hid k1
 have K2:=Lib.hid k2
 clear hb x3 xf xl HF HD H1 H2 k1 k2
 go_wp2_with fail
 have x0:=K1.out.cell 0
 have x1:=K1.out.cell 1
 have xl:=K1.out.lt
 simp only[List.getElem?_toArray,List.getElem?_cons_zero,List.getElem?_cons_succ] at x0 x1
 go_quiet (fail)
 obtain⟨v1,hv1⟩:∃ v1,w1.drewN nq=v1:=⟨_,rfl⟩
 have J1:=Lib.hid (K1.out.drewN nq)
 have J2:=Lib.hid (K2.out.drewN nq)
 have JD:=Lib.hid (HD1.out.drewN nq)
 rw[hv1] at J1 J2 JD ⊢
 clear hv1 x0 x1 xl K1 K2 HD1
 have x1:=J1.out.cell 1
 have xl:=J1.out.lt
 have x2:=J1.out.cell 2
 have x4:=J1.out.cell 4
 simp only[List.getElem?_toArray,List.getElem?_cons_zero,List.getElem?_cons_succ] at x1 x2 x4
 go_wp2_with fail
 go_quiet (fail)
 have HK1:=Lib.hid (J1.out.drewN nq)
 have HK2:=Lib.hid (J2.out.drewN nq)
 have HD2:=Lib.hid (JD.out.drewN nq)
 clear x1 x2 x4 xl J1 J2 JD
 obtain⟨w2,hw2⟩:∃ w2,v1.drewN nq=w2:=⟨_,rfl⟩
 rw[hw2] at HK1 HK2 HD2 ⊢
 clear hw2
 have x4:=HK1.out.cell 4
 have xl:=HK1.out.lt
 have t3:=HK2.out.cell 3
 have tl:=HK2.out.lt
 simp only[zeroP,List.getElem?_toArray,List.getElem?_cons_zero,List.getElem?_cons_succ] at x4 t3
 go_upto_region 15 with fail
 clear x4 xl t3 tl
 obtain⟨SS,hSS⟩:∃ SS:World->Prop,SS=fun W=>Blk W x 397 #[.int .i64 512,.int .i64 0,.int .i64 0,.int .i64 2,.slice (some ⟨tb,0,none⟩) 8 8]:=⟨_,rfl⟩
 have HSC:=Lib.hid (fun W (q:SS W)=>(by rw[hSS] at q;exact q:Blk W x 397 #[.int .i64 512,.int .i64 0,.int .i64 0,.int .i64 2,.slice (some ⟨tb,0,none⟩) 8 8]))
 have HSI:=Lib.hid (fun W (q:Blk W x 397 #[.int .i64 512,.int .i64 0,.int .i64 0,.int .i64 2,.slice (some ⟨tb,0,none⟩) 8 8])=>(by rw[hSS];exact q:SS W))
 clear hSS
 have HSS:SS w2.drew:=HSI.out _ (HK1.out.drew)
 refine wp_region_held_drew (by kernel_rfl) HSS (fun _=>?_)
 refine Held.take 0 97 (v:=?_) rfl rfl (by kernel_rfl) (by kernel_rfl) (by kernel_rfl) (fun _ _ _ _ h=>h) (by kernel_rfl) HSS ?_ ?_
 rotate_left
 ·intro u hu
  go_simp
  try with_reducible rfl
 try simp only[List.setIfInBounds_toArray,List.set_cons_succ,List.set_cons_zero]
 refine Held.take 1 98 (v:=?_) rfl rfl (by kernel_rfl) (by kernel_rfl) (by kernel_rfl) (fun _ _ _ _ h=>h) (by kernel_rfl) HSS ?_ ?_
 rotate_left
 ·intro u hu
  go_simp
  try with_reducible rfl
 try simp only[List.setIfInBounds_toArray,List.set_cons_succ,List.set_cons_zero]
 refine Held.take 2 99 (v:=?_) rfl rfl (by kernel_rfl) (by kernel_rfl) (by kernel_rfl) (fun _ _ _ _ h=>h) (by kernel_rfl) HSS ?_ ?_
 rotate_left
 ·intro u hu
  go_simp
  try with_reducible rfl
 try simp only[List.setIfInBounds_toArray,List.set_cons_succ,List.set_cons_zero]
 refine Held.take 3 100 (v:=?_) rfl rfl (by kernel_rfl) (by kernel_rfl) (by kernel_rfl) (fun _ _ _ _ h=>h) (by kernel_rfl) HSS ?_ ?_
 rotate_left
 ·intro u hu
  have r1:=HSC.out u hu
  have x4:=(r1).cell 4
  have xl:=(r1).lt
  simp only[List.getElem?_toArray,List.getElem?_cons_zero,List.getElem?_cons_succ] at x4
  go_simp
  try with_reducible rfl
 try simp only[List.setIfInBounds_toArray,List.set_cons_succ,List.set_cons_zero]
 refine Held.take 4 101 (v:=?_) rfl rfl (by kernel_rfl) (by kernel_rfl) (by kernel_rfl) (fun _ _ _ _ h=>h) (by kernel_rfl) HSS ?_ ?_
 rotate_left
 ·intro u hu
  go_simp
  try with_reducible rfl
 try simp only[List.setIfInBounds_toArray,List.set_cons_succ,List.set_cons_zero]
 refine Held.take 5 102 (v:=?_) rfl rfl (by kernel_rfl) (by kernel_rfl) (by kernel_rfl) (fun _ _ _ _ h=>h) (by kernel_rfl) HSS ?_ ?_
 rotate_left
 ·intro u hu
  go_simp
  try with_reducible rfl
 try simp only[List.setIfInBounds_toArray,List.set_cons_succ,List.set_cons_zero]
 refine Held.take 7 104 (v:=?_) rfl rfl (by kernel_rfl) (by kernel_rfl) (by kernel_rfl) (fun _ _ _ _ h=>h) (by kernel_rfl) HSS ?_ ?_
 rotate_left
 ·intro u hu
  go_simp
  try with_reducible rfl
 try simp only[List.setIfInBounds_toArray,List.set_cons_succ,List.set_cons_zero]
 refine Held.one 6 rfl (by kernel_rfl) (fun K hK=>?_)
 go_simp
 refine (cloneB_nil _).mono ?_
 rintro e w3 ⟨rfl,rfl⟩
 refine hK.out _ _ HSS ?_
 clear hK K
 try simp only[List.setIfInBounds_toArray,List.set_cons_succ,List.set_cons_zero]
 refine Held.take 8 105 (v:=?_) rfl rfl (by kernel_rfl) (by kernel_rfl) (by kernel_rfl) (fun _ _ _ _ h=>h) (by kernel_rfl) HSS ?_ ?_
 rotate_left
 ·intro u hu
  go_simp
  try with_reducible rfl
 try simp only[List.setIfInBounds_toArray,List.set_cons_succ,List.set_cons_zero]
 refine Held.take 9 106 (v:=?_) rfl rfl (by kernel_rfl) (by kernel_rfl) (by kernel_rfl) (fun _ _ _ _ h=>h) (by kernel_rfl) HSS ?_ ?_
 rotate_left
 ·intro u hu
  go_simp
  try with_reducible rfl
 try simp only[List.setIfInBounds_toArray,List.set_cons_succ,List.set_cons_zero]
 refine Held.one 10 rfl (by kernel_rfl) (fun K hK=>?_)
 have t3:=HK2.out.cell 3
 have t4:=HK2.out.cell 4
 have t5:=HK2.out.cell 5
 have f3:=HK2.out.frozen 3
 have f4:=HK2.out.frozen 4
 have f5:=HK2.out.frozen 5
 have tl:=HK2.out.lt
 simp only[zeroP,List.getElem?_toArray,List.getElem?_cons_zero,List.getElem?_cons_succ] at t3 t4 t5
 go_simp
 refine hK.out _ _ (HSI.out _ (((HK1.out.far (p:=⟨tb,3,none⟩) (fun e=>HNE.out e.symm) _).far (p:=⟨tb,4,none⟩) (fun e=>HNE.out e.symm) _).far (p:=⟨tb,5,none⟩) (fun e=>HNE.out e.symm) _).drew) ?_
 clear hK K t3 t4 t5 f3 f4 f5 tl
 try simp only[List.setIfInBounds_toArray,List.set_cons_succ,List.set_cons_zero]
 refine wpAnyH_done (by kernel_rfl) ?_ _
 clear HSS HSC HSI
 have HX3:=Lib.hid ((((HK1.out.far (p:=⟨tb,3,none⟩) (fun e=>HNE.out e.symm) (.int .u8 1)).far (p:=⟨tb,4,none⟩) (fun e=>HNE.out e.symm) (.slice none 0 0)).far (p:=⟨tb,5,none⟩) (fun e=>HNE.out e.symm) (.int .i64 n)).drew)
 have HD3:=Lib.hid ((((HD2.out.setCell (p:=⟨tb,3,none⟩) (fun _=>Or.inr rfl) (.int .u8 1)).setCell (p:=⟨tb,4,none⟩) (fun _=>Or.inr rfl) (.slice none 0 0)).setCell (p:=⟨tb,5,none⟩) (fun _=>Or.inr rfl) (.int .i64 n)).drew)
 obtain⟨w3,hw3⟩:∃ w3,(((w2.setCell ⟨tb,3,none⟩ (.int .u8 1)).setCell ⟨tb,4,none⟩ (.slice none 0 0)).setCell ⟨tb,5,none⟩ (.int .i64 n)).drew=w3:=⟨_,rfl⟩
 rw[hw3] at HX3 HD3 ⊢
 clear hw3
 have x1:=HX3.out.cell 1
 have xf:=HX3.out.frozen 1
 have xl:=HX3.out.lt
 simp only[List.getElem?_toArray,List.getElem?_cons_zero,List.getElem?_cons_succ] at x1
 go_wp2_with fail
 go_ret3
 exact⟨rfl,HD3.out.setCell (p:=⟨x,1,none⟩) (fun _=>Or.inl rfl) _⟩
theorem valid0 (w:World) (a:Option Addr) (c:Nat) (hc:c<=maxLen):Calls Tryz.prog 74 #[.slice a 0 c] w fun e w'=>e=.returned (.bool true)/\Below w.heap.size w w' :=
 rowValid_any w (.slice a 0 c) [] (rowAt_nil w a c 3 hc)
set_option maxHeartbeats 2000000 in
set_option maxRecDepth 100000 in
theorem fits0 (w:World) (st:Nat) (cs:Array Value) (a:Option Addr) (c:Nat) (hs:Blk w st 326 cs) (h0:cs[0]? = some (.int .i64 0)) (hc:c<=maxLen) :
 Calls Tryz.prog 273 #[.pointer (some ⟨st,0,none⟩),.slice a 0 c] w fun e w'=>e=.returned (.bool true)/\Below w.heap.size w w':=by
 have x0:=hs.cell 0
 rw[h0] at x0
 have xl:=hs.lt
 have HV:=Lib.hid (valid0 w a c hc)
 clear hs h0
 go_enter Tryz.func273,Tryz.ntmps273
 go_wp2_with fail
 refine HV.out.mono ?_
 rintro e w1 ⟨rfl,hb⟩
 have HB:=Lib.hid hb
 clear hb x0 xl
 go_wp2_with fail
 go_ret
 exact⟨rfl,HB.out⟩
set_option maxHeartbeats 2000000 in
set_option maxRecDepth 100000 in
theorem rpack0 (w:World) (a:Option Addr) (c:Nat) (hc:c<=maxLen):Calls Tryz.prog 319 #[.slice a 0 c] w fun e w'=>e=.returned (.tuple #[.slice none 0 0,.int .i64 0])/\Below w.heap.size w w':=by
 have HV:=Lib.hid (valid0 w a c hc)
 go_enter Tryz.func319,Tryz.ntmps319
 go_wp2_with fail
 refine HV.out.mono ?_
 rintro e w1 ⟨rfl,hb⟩
 have HB:=Lib.hid hb
 clear hb
 go_wp2_with fail
 go_loopw [18,4] (fun i v wr=>i=.int .i64 0/\v=.slice none 0 0/\wr=w1) (fun _ _ _=>0)
 case atStart=>exact⟨rfl,rfl,rfl⟩
 case round =>
  obtain⟨rfl,rfl,hwr⟩:=hrel
  have hwr':=hwr.symm
  subst hwr'
  go_wp2_with fail
  go_ret2
  exact⟨rfl,HB.out⟩
set_option maxHeartbeats 2000000 in
set_option maxRecDepth 100000 in
theorem pack0 (w:World) (a:Option Addr) (c:Nat) (hc:c<=maxLen):Calls Tryz.prog 297 #[.slice a 0 c] w fun e w'=>e=.returned (.slice none 0 0)/\Below w.heap.size w w':=by
 have HV:=Lib.hid (rpack0 w a c hc)
 go_enter Tryz.func297,Tryz.ntmps297
 go_wp2_with fail
 refine HV.out.mono ?_
 rintro e w1 ⟨rfl,hb⟩
 have HB:=Lib.hid hb
 clear hb
 go_wp2_with fail
 go_ret
 exact⟨rfl,HB.out⟩
set_option maxHeartbeats 2000000 in
set_option maxRecDepth 100000 in
theorem alen0 (w:World) (a1:Nat) (cs:Array Value) (n:Int) (hs:Blk w a1 394 cs) (h4:cs[4]? = some (.int .i64 n)):Calls Tryz.prog 309 #[.pointer (some ⟨a1,0,none⟩)] w fun e w'=>e=.returned (.int .i64 n)/\w'=w:=by
 have x4:=hs.cell 4
 rw[h4] at x4
 have xl:=hs.lt
 clear hs h4
 go_enter Tryz.func309,Tryz.ntmps309
 go_wp2_with fail
 go_ret
 exact⟨rfl,rfl⟩
set_option maxHeartbeats 2000000 in
set_option maxRecDepth 100000 in
theorem slen0 (w:World) (st a1:Nat) (ds cs:Array Value) (n:Int) (hd:Blk w st 326 ds) (hd4:ds[4]? = some (.pointer (some ⟨a1,0,none⟩))) (hs:Blk w a1 394 cs) (h4:cs[4]? = some (.int .i64 n)):Calls Tryz.prog 278 #[.pointer (some ⟨st,0,none⟩)] w fun e w'=>e=.returned (.int .i64 n)/\w'=w:=by
 have HA:=Lib.hid (alen0 w a1 cs n hs h4)
 have x4:=hd.cell 4
 rw[hd4] at x4
 have xl:=hd.lt
 clear hd hd4 hs h4
 go_enter Tryz.func278,Tryz.ntmps278
 go_wp2_with fail
 refine HA.out.mono ?_
 rintro e w1 ⟨rfl,rfl⟩
 go_wp2_with fail
 go_ret
 exact⟨rfl,rfl⟩
set_option maxHeartbeats 8000000 in
set_option maxRecDepth 100000 in
theorem slot0 (w:World) (st x tb:Nat) (cs:Array Value) (a:Option Addr) (c:Nat) (hs:Blk w st 326 cs) (h0:cs[0]? = some (.int .i64 0)) (h6:cs[6]? = some (.pointer (some ⟨x,0,none⟩))) (hx:Blk w x 397 #[.int .i64 512,.int .i64 0,.int .i64 0,.int .i64 0,.slice (some ⟨tb,0,none⟩) 8 8]) (ht:Blk w tb 428 zeroP.toArray) (hc:c<=maxLen) :
 Calls Tryz.prog 274 #[.pointer (some ⟨st,0,none⟩),.slice a 0 c] w fun e w'=>e=.returned (.int .i64 (-1))/\Blk w' x 397 #[.int .i64 512,.int .i64 0,.int .i64 0,.int .i64 1,.slice (some ⟨tb,0,none⟩) 8 8]/\Mod (fun k=>k=x) w w':=by
 have HF:=Lib.hid (fits0 w st cs a c hs h0 hc)
 have HS:=Lib.hid hs
 have H6:=Lib.hid h6
 have HX:=Lib.hid hx
 have HT:=Lib.hid ht
 clear hs h0 h6 hx ht
 go_enter Tryz.func274,Tryz.ntmps274
 go_wp2_with fail
 refine HF.out.mono ?_
 rintro e w1 ⟨rfl,hb⟩
 have HS1:=Lib.hid (HS.out.below hb HS.out.lt)
 have HX1:=Lib.hid (HX.out.below hb HX.out.lt)
 have HT1:=Lib.hid (HT.out.below hb HT.out.lt)
 have HD1:=Lib.hid (Mod.ofBelow (F:=fun k=>k=x) hb)
 clear hb HS HX HT HF
 go_wp2_with fail
 obtain⟨SS,hSS⟩:∃ SS:World->Prop,SS=fun W=>Blk W st 326 cs:=⟨_,rfl⟩
 have HSC:=Lib.hid (fun W (q:SS W)=>(by rw[hSS] at q;exact q:Blk W st 326 cs))
 have HSI:=Lib.hid (fun W (q:Blk W st 326 cs)=>(by rw[hSS];exact q:SS W))
 clear hSS
 have HSS:SS w1.drew:=HSI.out _ (HS1.out.drew)
 refine wp_region_held_drew (by kernel_rfl) HSS (fun _=>?_)
 refine Held.take 0 12 (v:=?_) rfl rfl (by kernel_rfl) (by kernel_rfl) (by kernel_rfl) (fun _ _ _ _ h=>h) (by kernel_rfl) HSS ?_ ?_
 rotate_left
 ·intro u hu
  go_simp
  try with_reducible rfl
 try simp only[List.setIfInBounds_toArray,List.set_cons_succ,List.set_cons_zero]
 refine Held.take 1 13 (v:=?_) rfl rfl (by kernel_rfl) (by kernel_rfl) (by kernel_rfl) (fun _ _ _ _ h=>h) (by kernel_rfl) HSS ?_ ?_
 rotate_left
 ·intro u hu
  go_simp
  try with_reducible rfl
 try simp only[List.setIfInBounds_toArray,List.set_cons_succ,List.set_cons_zero]
 refine Held.take 2 14 (v:=?_) rfl rfl (by kernel_rfl) (by kernel_rfl) (by kernel_rfl) (fun _ _ _ _ h=>h) (by kernel_rfl) HSS ?_ ?_
 rotate_left
 ·intro u hu
  go_simp
  try with_reducible rfl
 try simp only[List.setIfInBounds_toArray,List.set_cons_succ,List.set_cons_zero]
 refine Held.take 3 15 (v:=?_) rfl rfl (by kernel_rfl) (by kernel_rfl) (by kernel_rfl) (fun _ _ _ _ h=>h) (by kernel_rfl) HSS ?_ ?_
 rotate_left
 ·intro u hu
  have x6:=(HSC.out u hu).cell 6
  rw[H6.out] at x6
  have xl:=(HSC.out u hu).lt
  go_simp
  try with_reducible rfl
 try simp only[List.setIfInBounds_toArray,List.set_cons_succ,List.set_cons_zero]
 refine Held.take 4 16 (v:=?_) rfl rfl (by kernel_rfl) (by kernel_rfl) (by kernel_rfl) (fun _ _ _ _ h=>h) (by kernel_rfl) HSS ?_ ?_
 rotate_left
 ·intro u hu
  go_simp
  try with_reducible rfl
 try simp only[List.setIfInBounds_toArray,List.set_cons_succ,List.set_cons_zero]
 refine Held.one 5 rfl (by kernel_rfl) (fun K hK=>?_)
 go_simp
 refine (pack0 _ a c hc).mono ?_
 rintro e w2 ⟨rfl,hb⟩
 have HX2:=Lib.hid (HX1.out.drew.below hb HX1.out.lt)
 have HT2:=Lib.hid (HT1.out.drew.below hb HT1.out.lt)
 have HD2:=Lib.hid (HD1.out.drew.trans (Mod.ofBelow (F:=fun _=>False) hb) (fun _ _ f=>f.elim))
 clear HSS
 have HSS:=HSI.out w2 (HS1.out.drew.below hb HS1.out.lt)
 have HS2:=Lib.hid (HS1.out.drew.below hb HS1.out.lt)
 clear hb
 refine hK.out _ _ HSS ?_
 clear hK K
 try simp only[List.setIfInBounds_toArray,List.set_cons_succ,List.set_cons_zero]
 refine Held.one 6 rfl (by kernel_rfl) (fun K hK=>?_)
 go_simp
 refine (get_any0 _ x tb HX2.out HT2.out none 0).mono ?_
 rintro e w3 ⟨rfl,hx3,hd3⟩
 have HX3:=Lib.hid hx3
 have HD3:=Lib.hid (HD2.out.trans hd3 (fun _ _ f=>f))
 clear HSS
 have HSS:=HSI.out w3 (HS2.out.mod hd3 (HS2.out.ne_ HX2.out (by decide)))
 clear hx3 hd3
 refine hK.out _ _ HSS ?_
 clear hK K
 try simp only[List.setIfInBounds_toArray,List.set_cons_succ,List.set_cons_zero]
 refine Held.take 7 11 (v:=?_) rfl rfl (by kernel_rfl) (by kernel_rfl) (by kernel_rfl) (fun _ _ _ _ h=>h) (by kernel_rfl) HSS ?_ ?_
 rotate_left
 ·intro u hu
  go_simp
  try with_reducible rfl
 try simp only[List.setIfInBounds_toArray,List.set_cons_succ,List.set_cons_zero]
 refine Held.take 8 19 (v:=?_) rfl rfl (by kernel_rfl) (by kernel_rfl) (by kernel_rfl) (fun _ _ _ _ h=>h) (by kernel_rfl) HSS ?_ ?_
 rotate_left
 ·intro u hu
  go_simp
  try with_reducible rfl
 try simp only[List.setIfInBounds_toArray,List.set_cons_succ,List.set_cons_zero]
 refine Held.take 9 20 (v:=?_) rfl rfl (by kernel_rfl) (by kernel_rfl) (by kernel_rfl) (fun _ _ _ _ h=>h) (by kernel_rfl) HSS ?_ ?_
 rotate_left
 ·intro u hu
  go_simp
  try with_reducible rfl
 try simp only[List.setIfInBounds_toArray,List.set_cons_succ,List.set_cons_zero]
 refine Held.take 10 5 (v:=?_) rfl rfl (by kernel_rfl) (by kernel_rfl) (by kernel_rfl) (fun _ _ _ _ h=>h) (by kernel_rfl) HSS ?_ ?_
 rotate_left
 ·intro u hu
  go_simp
  try with_reducible rfl
 try simp only[List.setIfInBounds_toArray,List.set_cons_succ,List.set_cons_zero]
 refine Held.take 11 6 (v:=?_) rfl rfl (by kernel_rfl) (by kernel_rfl) (by kernel_rfl) (fun _ _ _ _ h=>h) (by kernel_rfl) HSS ?_ ?_
 rotate_left
 ·intro u hu
  go_simp
  try with_reducible rfl
 try simp only[List.setIfInBounds_toArray,List.set_cons_succ,List.set_cons_zero]
 refine wpAnyH_done (by kernel_rfl) ?_ _
 clear HSS HSC HSI
 go_wp2_with fail
 go_ret
 exact⟨rfl,HX3.out,HD3.out⟩
end Go.Proofs.YtgopfpjinohncaaGreatDoor
