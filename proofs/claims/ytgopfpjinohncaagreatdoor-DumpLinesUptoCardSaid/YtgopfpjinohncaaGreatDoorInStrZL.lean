/- slices.IndexFunc, ContainsFunc at string, walked, told by the place (printed by idxn.py). The store's parts made: arena.New, hashidx.New, chain.New at the dump's sizes, walked. (*store.Store).lay, store.New at width 0, walked (printed by mkst1.py). -/
import Derived.Test.YtgopfpjinohncaaGreatDoorGbL
import Derived.Test.YtgopfpjinohncaaGreatDoorShelfZL
import Derived.Test.YtgopfpjinohncaaGreatDoorGaL
import Derived.Test.YtgopfpjinohncaaGreatDoorSkgZL
import Derived.Shelf.Abstract
import Derived.Deep.Cut
import Derived.Deep.RegionLaw
namespace Go.Proofs.YtgopfpjinohncaaGreatDoor
open Go.RowKit
set_option linter.unusedVariables false
set_option maxHeartbeats 4000000 in
set_option maxRecDepth 100000 in
theorem indexN_Str (g:Nat) (lb:Array Value) (eg:∀ args w,(callFunc g args).run Tryz.prog w=.ok (.enter g args) w) (p:Nat->Bool) (w:World) (v:Value) (xs:List (List Value)) (h:RowAt w v 1 xs) (hl:∀ x∈xs,x.length=1)
 (hf:∀ (W:World) (k:Nat) (x:List Value),Below w.heap.size w W->xs[k]? = some x->Calls Tryz.prog g (#[x[0]!]++lb) W fun e W'=>e=.returned (.bool (p k))/\Below W.heap.size W W') :
 Calls Tryz.prog 202 #[v,.func (.func g) #[] lb] w fun e w'=>(∃ q:Int,e=.returned (.int .i64 q)/\decide (0<=q)=(List.range xs.length).any p)/\Below w.heap.size w w':=by
 obtain⟨ad,cap,rfl,hnc,hcm⟩:=h.form
 have hln:=h.len
 have HR:=Lib.hid h
 have HL:=Lib.hid hl
 have HF:=Lib.hid hf
 unfold maxLen at hcm
 generalize hn:xs.length=n at *
 have HN:=Lib.hid hn
 clear h hl hf hn
 go_enter Tryz.func202,Tryz.ntmps202
 go_wp2_with fail
 go_loopw [5,8] (fun _ i wr=>∃ k:Nat,k<=n/\i=.int .i64 k/\Hid (Below w.heap.size w wr)/\Hid (∀ j,j<k->p j=false)) (fun _ i _=>n - (intOf i).toNat)
 case atStart=>exact⟨0,Nat.zero_le _,rfl,Lib.hid (Below.refl _ _),Lib.hid (fun j hj=>by omega)⟩
 case round =>
  obtain⟨k,hk,rfl,HB,HP⟩:=hrel
  by_cases hlt:k<n
  ·obtain⟨x,hx⟩:∃ x,xs[k]? = some x:=⟨xs[k]'(by rw[HN.out];exact hlt),List.getElem?_eq_getElem (by rw[HN.out];exact hlt)⟩
   have hm:x∈xs:=List.mem_of_getElem? hx
   obtain⟨b,off,cap',hv,_,_,hbl,hce⟩:=(HR.out.keep HB.out).get hx
   rw[HN.out] at hv
   simp only[Value.slice.injEq,true_and] at hv
   obtain⟨rfl,rfl⟩:=hv
   obtain⟨e0,rfl⟩:=len1 (HL.out x hm)
   have q0:=hce 0 e0 rfl
   simp only[Nat.mul_one,Nat.add_zero] at q0
   have hcall:=HF.out wr k _ HB.out hx
   clear hce hm hx
   cases hq:p k with
   | true =>
     rw[hq] at hcall
     have HC:=Lib.hid hcall
     have HQ:=Lib.hid hq
     clear hcall hq
     go_wp2_with fail
     refine HC.out.mono ?_
     rintro e w' ⟨rfl,hb'⟩
     have HB':=Lib.hid hb'
     clear hb'
     go_wp2_with fail
     go_ret
     refine⟨⟨k,rfl,?_⟩,HB.out.trans (HB'.out.mono HB.out.size)⟩
     rw[decide_eq_true (Int.natCast_nonneg k)]
     exact (List.any_eq_true.2 ⟨k,List.mem_range.2 hlt,HQ.out⟩).symm
   | false =>
     rw[hq] at hcall
     have HC:=Lib.hid hcall
     have HQ:=Lib.hid hq
     clear hcall hq
     go_wp2_with fail
     refine HC.out.mono ?_
     rintro e w' ⟨rfl,hb'⟩
     have HB':=Lib.hid hb'
     clear hb'
     go_wp2_with fail
     go_roundw
     case rel =>
      refine⟨k+1,by omega,by go_num,Lib.hid (HB.out.trans (HB'.out.mono HB.out.size)),Lib.hid (fun j hj=>?_)⟩
      rcases Nat.lt_or_ge j k with h1 | h1
      ·exact HP.out j h1
      ·obtain rfl:j=k:=by omega
       exact HQ.out
     case measure=>simp [intOf];omega
  ·obtain rfl:k=n:=by omega
   go_wp2_with fail
   go_ret
   refine⟨⟨-1,rfl,?_⟩,HB.out⟩
   rw[show decide ((0:Int) <= -1)=false from by decide]
   refine (List.any_eq_false.2 fun j hj=>?_).symm
   rw[HP.out j (List.mem_range.1 hj)]
   decide
set_option maxHeartbeats 4000000 in
set_option maxRecDepth 100000 in
theorem containsN_Str (g:Nat) (lb:Array Value) (eg:∀ args w,(callFunc g args).run Tryz.prog w=.ok (.enter g args) w) (p:Nat->Bool) (w:World) (v:Value) (xs:List (List Value)) (h:RowAt w v 1 xs) (hl:∀ x∈xs,x.length=1)
 (hf:∀ (W:World) (k:Nat) (x:List Value),Below w.heap.size w W->xs[k]? = some x->Calls Tryz.prog g (#[x[0]!]++lb) W fun e W'=>e=.returned (.bool (p k))/\Below W.heap.size W W') :
 Calls Tryz.prog 214 #[v,.func (.func g) #[] lb] w fun e w'=>e=.returned (.bool ((List.range xs.length).any p))/\Below w.heap.size w w':=by
 have HI:=Lib.hid (indexN_Str g lb eg p w v xs h hl hf)
 clear h hl hf
 generalize (List.range xs.length).any p=R at *
 go_enter Tryz.func214,Tryz.ntmps214
 go_wp2_with fail
 refine HI.out.mono ?_
 rintro e w' ⟨⟨q,rfl,hq⟩,hb'⟩
 have HB':=Lib.hid hb'
 clear hb'
 go_wp2_with fail
 go_ret
 exact⟨by first | rfl | simp,HB'.out⟩
theorem anewR_any (w:World):Calls Tryz.prog 266 #[.int .i64 512,.int .i64 1073741824] w fun e w'=>e=.returned (.tuple #[.pointer (some ⟨w.heap.size,0,none⟩),.int .i64 0])/\w'=w.alloc (.cells #[.int .i64 512,.int .i64 1073741824,.slice none 0 0,.slice none 0 0,.int .i64 0] 394):=by
 go_enter Tryz.func266,Tryz.ntmps266
 go_wp2_with fail
 go_ret2
 exact⟨rfl,rfl⟩
theorem anewI_any (w:World):Calls Tryz.prog 268 #[.int .i64 512,.int .i64 1073741824] w fun e w'=>e=.returned (.tuple #[.pointer (some ⟨w.heap.size,0,none⟩),.int .i64 0])/\w'=w.alloc (.cells #[.int .i64 512,.int .i64 1073741824,.slice none 0 0,.slice none 0 0,.int .i64 0] 400):=by
 go_enter Tryz.func268,Tryz.ntmps268
 go_wp2_with fail
 go_ret2
 exact⟨rfl,rfl⟩
theorem cnew_any (w:World):Calls Tryz.prog 269 #[.int .i64 512,.int .i64 513] w fun e w'=>e=.returned (.tuple #[.pointer (some ⟨w.heap.size,0,none⟩),.int .i64 0])/\w'=w.alloc (.cells #[.int .i64 512,.slice none 0 0,.int .i64 513,.slice none 0 0] 377):=by
 go_enter Tryz.func269,Tryz.ntmps269
 go_wp2_with fail
 go_ret2
 exact⟨rfl,rfl⟩
def zeroP:List Value:=[.int .u8 0,.slice none 0 0,.int .i64 0,.int .u8 0,.slice none 0 0,.int .i64 0,.int .u8 0,.slice none 0 0,.int .i64 0,.int .u8 0,.slice none 0 0,.int .i64 0,.int .u8 0,.slice none 0 0,.int .i64 0,.int .u8 0,.slice none 0 0,.int .i64 0,.int .u8 0,.slice none 0 0,.int .i64 0,.int .u8 0,.slice none 0 0,.int .i64 0]
theorem Tryz.infoPlace:(Tryz.prog.info? 428).map (fun i=>(i.zero,i.size,i.bytes))=some (some (.agg #[.int .u8 0,.slice none 0 0,.int .i64 0]),3,40):=by kernel_rfl
set_option maxRecDepth 100000 in
theorem hnew_any (w:World):Calls Tryz.prog 267 #[.int .i64 512] w fun e w'=>∃ x,e=.returned (.tuple #[.pointer (some ⟨x,0,none⟩),.int .i64 0])/\Blk w' x 397 #[.int .i64 512,.int .i64 0,.int .i64 0,.int .i64 0,.slice (some ⟨w.heap.size,0,none⟩) 8 8] /\
 w'.ownsRow w.heap.size 428 3 (.slice (some ⟨w.heap.size,0,none⟩) 8 8) 8 zeroP/\w.heap.size<=x/\Below w.heap.size w w':=by
 obtain⟨i0,hi0,hz0,hz1,hz2⟩:=info_parts Tryz.infoPlace
 go_enter Tryz.func267,Tryz.ntmps267
 go_wp2_with (at_make;refine wpList_make_full _ rfl _ _ 395 rfl w.heap.size 428 i0 (.agg #[.int .u8 0,.slice none 0 0,.int .i64 0]) 3 Tryz.underlying395 hi0 hz0 hz1 _ _ _ _ 8 rfl rfl rfl rfl ?b2 ?b3 ?b4 ?_)
 case b2=>rw[hz2];omega
 case b3=>unfold maxLen;omega
 case b4=>omega
 intro w2 hown2 hgrow2
 have hbw2:Below w.heap.size w w2:=(Below.refl _ w).grown hgrow2 (Nat.le_refl _) (fun q hq=>by cases hq)
 replace hown2:w2.ownsRow w.heap.size 428 3 (.slice (some ⟨w.heap.size,0,none⟩) 8 8) 8 zeroP:=by
  have hz:(madeCells #[.int .u8 0,.slice none 0 0,.int .i64 0] 24).toList=zeroP:=by kernel_rfl
  rw[<-hz]
  exact hown2
 have HO:=Lib.hid hown2
 have HB:=Lib.hid hbw2
 clear hown2 hgrow2 hbw2
 go_wp2_with fail
 go_ret2
 exact⟨_,rfl,Blk.new _ _ _,HO.out.alloc _,HB.out.size,balloc HB.out _⟩
theorem hash_any (w:World) (a:Option Addr) (c:Nat):Calls Tryz.prog 334 #[.slice a 0 c] w fun e w'=>e=.returned (.int .u64 14695981038468906945)/\w'=w:=by
 go_enter Tryz.func334,Tryz.ntmps334
 go_wp2_with fail
 go_loopw [3,8] (fun h i wr=>h=.int .u64 14695981039346656037/\i=.int .i64 0/\wr=w) (fun _ _ _=>0)
 case atStart=>exact⟨rfl,rfl,rfl⟩
 case round =>
  obtain⟨rfl,rfl,rfl⟩:=hrel
  go_wp2_with fail
  go_ret
  exact⟨rfl,rfl⟩
def MapB (w:World) (b:Nat) (es:Array MapEntry) (c:Nat):Prop:=w.heap[b]? = some (.map es c)
structure StE (w:World) (st a1 m1 h1 tb a2 m2 c1:Nat) (mk:Bool):Prop where
 pst:Blk w st 326 #[.int .i64 0,.int .i64 512,.int .i64 1,.slice none 0 0,.pointer (some ⟨a1,0,none⟩),.map (some m1),.pointer (some ⟨h1,0,none⟩),.slice none 0 0,.pointer (some ⟨a2,0,none⟩),.map (some m2),.pointer (some ⟨c1,0,none⟩),.bool mk,.slice none 0 0]
 pa1:Blk w a1 394 #[.int .i64 512,.int .i64 1073741824,.slice none 0 0,.slice none 0 0,.int .i64 0]
 pm1:MapB w m1 #[] 0
 ph1:Blk w h1 397 #[.int .i64 512,.int .i64 0,.int .i64 0,.int .i64 0,.slice (some ⟨tb,0,none⟩) 8 8]
 ptb:w.ownsRow 0 428 3 (.slice (some ⟨tb,0,none⟩) 8 8) 8 zeroP
 pa2:Blk w a2 400 #[.int .i64 512,.int .i64 1073741824,.slice none 0 0,.slice none 0 0,.int .i64 0]
 pm2:MapB w m2 #[] 0
 pc1:Blk w c1 377 #[.int .i64 512,.slice none 0 0,.int .i64 513,.slice none 0 0]
 pmm:m1≠m2
 plo:st<=a1/\st<=m1/\st<=h1/\st<=tb/\st<=a2/\st<=m2/\st<=c1
theorem MapB.mt {w w':World} {B:Nat} {Ts:List TypeId} {b:Nat} {es:Array MapEntry} {c:Nat} (h:MapB w b es c) (hm:MT B Ts w w'):MapB w' b es c:=by
 unfold MapB at *
 have hl:=(Array.getElem?_eq_some_iff.1 h).1
 refine (hm.block b hl ?_).trans h
 rintro ⟨_,cs,t,fr,h1,_⟩
 rw[h] at h1
 cases h1
theorem MapB.lt {w:World} {b:Nat} {es:Array MapEntry} {c:Nat} (h:MapB w b es c):b<w.heap.size:=(Array.getElem?_eq_some_iff.1 h).1
set_option maxHeartbeats 8000000 in
set_option maxRecDepth 100000 in
theorem lay_any (w:World) (st:Nat) (h:Blk w st 326 #[.int .i64 0,.int .i64 512,.int .i64 1,.slice none 0 0,.pointer none,.map none,.pointer none,.slice none 0 0,.pointer none,.map none,.pointer none,.bool false,.slice none 0 0]) :
 Calls Tryz.prog 236 #[.pointer (some ⟨st,0,none⟩)] w fun e w'=>e=.returned (.tuple #[])/\∃ a1 m1 h1 tb a2 m2 c1,StE w' st a1 m1 h1 tb a2 m2 c1 false/\MT st [326] w w':=by
 obtain⟨a1,ha1⟩:∃ a1,w.heap.size=a1:=⟨_,rfl⟩
 have hmm:=@run_makeMap Tryz.prog
 have La1:=Lib.hid (show st<=a1 by rw[<-ha1];exact Nat.le_of_lt h.lt)
 have x1:=h.cell 1
 have xl:=h.lt
 simp only[List.getElem?_toArray,List.getElem?_cons_zero,List.getElem?_cons_succ] at x1
 have s0:=h.alloc (.cells #[.int .i64 512,.int .i64 1073741824,.slice none 0 0,.slice none 0 0,.int .i64 0] 394)
 have z4:=s0.cell 4
 have zf:=s0.frozen 4
 have zl:=s0.lt
 simp only[List.getElem?_toArray,List.getElem?_cons_zero,List.getElem?_cons_succ] at z4
 have H:=Lib.hid h
 have S0:=Lib.hid s0
 clear h s0
 go_enter Tryz.func236,Tryz.ntmps236
 go_wp2_with fail
 refine (anewR_any _).mono ?_
 rintro e w0 ⟨rfl,rfl⟩
 go_upto_region 1 with fail
 obtain⟨W1,hW1⟩:∃ W1,(w.alloc (.cells #[.int .i64 512,.int .i64 1073741824,.slice none 0 0,.slice none 0 0,.int .i64 0] 394)).setCell ⟨st,4,none⟩ (.pointer (some ⟨a1,0,none⟩))=W1:=⟨_,rfl⟩
 rw[hW1]
 have s1:Blk W1 st 326 #[.int .i64 0,.int .i64 512,.int .i64 1,.slice none 0 0,.pointer (some ⟨a1,0,none⟩),.map none,.pointer none,.slice none 0 0,.pointer none,.map none,.pointer none,.bool false,.slice none 0 0]:=by rw[<-hW1];simpa using S0.out.set_ 4 (.pointer (some ⟨a1,0,none⟩))
 have b1:Blk W1 a1 394 #[.int .i64 512,.int .i64 1073741824,.slice none 0 0,.slice none 0 0,.int .i64 0]:=by rw[<-hW1,<-ha1];exact (Blk.new w _ _).far ((Blk.new w _ _).ne_ S0.out (by decide)) _
 have m1:MT st [326] w W1:=by rw[<-hW1];exact MT.setCell ((MT.refl w).alloc _) S0.out (by simp) (Nat.le_refl _) _
 obtain⟨mp,hmp⟩:∃ mp,W1.heap.size=mp:=⟨_,rfl⟩
 have Lmp:=Lib.hid (show st<=mp by rw[<-hmp];exact Nat.le_of_lt s1.lt)
 have s1':=s1.alloc (.map #[] 0)
 have z5:=s1'.cell 5
 have zf5:=s1'.frozen 5
 have zl5:=s1'.lt
 simp only[List.getElem?_toArray,List.getElem?_cons_zero,List.getElem?_cons_succ] at z5
 have S1:=Lib.hid s1
 have B1:=Lib.hid b1
 have M1:=Lib.hid m1
 have HW1:=Lib.hid hW1
 clear s1 b1 m1 hW1 s1' zf z4 zl xl x1
 go_upto_region 2 with fail
 obtain⟨W2,hW2⟩:∃ W2,(W1.alloc (.map #[] 0)).setCell ⟨st,5,none⟩ (.map (some mp))=W2:=⟨_,rfl⟩
 rw[hW2]
 have s2:Blk W2 st 326 #[.int .i64 0,.int .i64 512,.int .i64 1,.slice none 0 0,.pointer (some ⟨a1,0,none⟩),.map (some mp),.pointer none,.slice none 0 0,.pointer none,.map none,.pointer none,.bool false,.slice none 0 0]:=by rw[<-hW2];simpa using (S1.out.alloc (.map #[] 0)).set_ 5 (.map (some mp))
 have nst:st≠mp:=by rw[<-hmp];exact Nat.ne_of_lt S1.out.lt
 have b2:Blk W2 a1 394 #[.int .i64 512,.int .i64 1073741824,.slice none 0 0,.slice none 0 0,.int .i64 0]:=by rw[<-hW2];exact (B1.out.alloc _).far (B1.out.ne_ S1.out (by decide)) _
 have g2:MapB W2 mp #[] 0:=by
  rw[<-hW2]
  exact (Below.heap_setCell _ _ _ mp (fun e=>nst e.symm)).trans (by rw[<-hmp];exact heap_alloc_new W1 _)
 have m2:MT st [326] w W2:=by rw[<-hW2];exact MT.setCell (M1.out.alloc _) (S1.out.alloc _) (by simp) (Nat.le_refl _) _
 have x1:=s2.cell 1
 have xl:=s2.lt
 simp only[List.getElem?_toArray,List.getElem?_cons_zero,List.getElem?_cons_succ] at x1
 have S2:=Lib.hid s2
 have B2:=Lib.hid b2
 have M2:=Lib.hid m2
 have G2:=Lib.hid g2
 have HMP:=Lib.hid (And.intro hmp nst)
 clear s2 b2 m2 g2 hW2 z5 zf5 zl5 hmp nst S1 B1 M1
 go_wp2_with fail
 refine (hnew_any W2).mono ?_
 rintro e w3 ⟨hx,rfl,hX,hT,hxl,hb⟩
 obtain⟨tb,htb⟩:∃ tb,W2.heap.size=tb:=⟨_,rfl⟩
 have Ltb:=Lib.hid (show st<=tb/\st<=hx by have:=S2.out.lt;omega)
 rw[htb] at hX hT
 have s3:=S2.out.below hb S2.out.lt
 have z6:=s3.cell 6
 have zf6:=s3.frozen 6
 have zl6:=s3.lt
 simp only[List.getElem?_toArray,List.getElem?_cons_zero,List.getElem?_cons_succ] at z6
 have S3:=Lib.hid s3
 have HB3:=Lib.hid hb
 have HX3:=Lib.hid hX
 have HT3:=Lib.hid hT
 clear s3 hb hX hT x1 xl hxl htb
 go_upto_region 3 with fail
 obtain⟨W3,hW3⟩:∃ W3,w3.setCell ⟨st,6,none⟩ (.pointer (some ⟨hx,0,none⟩))=W3:=⟨_,rfl⟩
 rw[hW3]
 have s4:Blk W3 st 326 #[.int .i64 0,.int .i64 512,.int .i64 1,.slice none 0 0,.pointer (some ⟨a1,0,none⟩),.map (some mp),.pointer (some ⟨hx,0,none⟩),.slice none 0 0,.pointer none,.map none,.pointer none,.bool false,.slice none 0 0]:=by rw[<-hW3];simpa using S3.out.set_ 6 (.pointer (some ⟨hx,0,none⟩))
 have nx:hx≠st:=HX3.out.ne_ S3.out (by decide)
 have b4:Blk W3 a1 394 #[.int .i64 512,.int .i64 1073741824,.slice none 0 0,.slice none 0 0,.int .i64 0]:=by rw[<-hW3];exact (B2.out.below HB3.out B2.out.lt).far (B2.out.ne_ S2.out (by decide)) _
 have g4:MapB W3 mp #[] 0:=by
  rw[<-hW3]
  exact (Below.heap_setCell _ _ _ mp (fun e=>HMP.out.2 e.symm)).trans ((HB3.out.block mp G2.out.lt).trans G2.out)
 have h4:Blk W3 hx 397 #[.int .i64 512,.int .i64 0,.int .i64 0,.int .i64 0,.slice (some ⟨tb,0,none⟩) 8 8]:=by rw[<-hW3];exact HX3.out.far nx _
 have m3:MT st [326] w3 W3:=by rw[<-hW3];exact MT.setCell (MT.refl w3) S3.out (by simp) (Nat.le_refl _) _
 have t4:W3.ownsRow 0 428 3 (.slice (some ⟨tb,0,none⟩) 8 8) 8 zeroP:=m3.ownsRow (World.ownsRow.low HT3.out (Nat.zero_le _)) (by decide)
 have m4:MT st [326] w W3:=(M2.out.plusBelow HB3.out).trans m3
 have z7:=s4.cell 7
 have zf7:=s4.frozen 7
 have z3:=s4.cell 3
 have zl:=s4.lt
 simp only[List.getElem?_toArray,List.getElem?_cons_zero,List.getElem?_cons_succ] at z7 z3
 have S4:=Lib.hid s4
 have B4:=Lib.hid b4
 have G4:=Lib.hid g4
 have H4:=Lib.hid h4
 have T4:=Lib.hid t4
 have M4:=Lib.hid m4
 clear s4 b4 g4 h4 t4 m4 m3 nx hW3 z6 zf6 zl6 S3 HX3 HT3 HB3 B2 G2 M2 S2
 go_upto_region 4 with fail
 obtain⟨W4,hW4⟩:∃ W4,W3.setCell ⟨st,7,none⟩ (.slice none 0 0)=W4:=⟨_,rfl⟩
 rw[hW4]
 have s5:Blk W4 st 326 #[.int .i64 0,.int .i64 512,.int .i64 1,.slice none 0 0,.pointer (some ⟨a1,0,none⟩),.map (some mp),.pointer (some ⟨hx,0,none⟩),.slice none 0 0,.pointer none,.map none,.pointer none,.bool false,.slice none 0 0]:=by rw[<-hW4];simpa using S4.out.set_ 7 (.slice none 0 0)
 have q5:MT st [326] W3 W4:=by rw[<-hW4];exact MT.setCell (MT.refl _) S4.out (by simp) (Nat.le_refl _) _
 have B5:=Lib.hid (B4.out.mt q5 (by decide))
 have G5:=Lib.hid (G4.out.mt q5)
 have H5:=Lib.hid (H4.out.mt q5 (by decide))
 have T5:=Lib.hid (q5.ownsRow T4.out (by decide))
 have M5:=Lib.hid (M4.out.trans q5)
 have y3:=s5.cell 3
 have yl:=s5.lt
 simp only[List.getElem?_toArray,List.getElem?_cons_zero,List.getElem?_cons_succ] at y3
 have S5:=Lib.hid s5
 clear s5 q5 hW4 z7 zf7 z3 zl S4 B4 G4 H4 T4 M4
 go_wp2_with fail
 clear y3 yl
 go_loopw [38] (fun i wr=>i=.int .i64 0/\wr=W4) (fun _ _=>0)
 case atStart=>exact⟨rfl,rfl⟩
 case round =>
  obtain⟨rfl,hwr⟩:=hrel
  have hwr':=hwr.symm
  subst hwr'
  have x1:=S5.out.cell 1
  have x2:=S5.out.cell 2
  have xl:=S5.out.lt
  simp only[List.getElem?_toArray,List.getElem?_cons_zero,List.getElem?_cons_succ] at x1 x2
  clear x1 x2 xl
  go_upto_region 9 with fail
  obtain⟨SS,hSS⟩:∃ SS:World->Prop,SS=fun W=>W.cell? ⟨st,1,none⟩=some (.int .i64 512)/\W.cell? ⟨st,2,none⟩=some (.int .i64 1)/\st<W.heap.size:=⟨_,rfl⟩
  have HSC:=Lib.hid (fun W (q:SS W)=>(by rw[hSS] at q;exact q:W.cell? ⟨st,1,none⟩=some (.int .i64 512)/\W.cell? ⟨st,2,none⟩=some (.int .i64 1)/\st<W.heap.size))
  have HSI:=Lib.hid (fun W (cs:Array Value) (q:Blk W st 326 cs) (k1:cs[1]? = some (.int .i64 512)) (k2:cs[2]? = some (.int .i64 1))=>(by
   have x1:=q.cell 1
   have x2:=q.cell 2
   rw[k1] at x1
   rw[k2] at x2
   rw[hSS]
   exact⟨x1,x2,q.lt⟩:SS W))
  clear hSS
  have HSS:SS W4.drew:=HSI.out _ _ S5.out.drew rfl rfl
  refine wp_region_held_drew (by kernel_rfl) HSS (fun _=>?_)
  refine Held.take 0 60 (v:=?_) rfl rfl (by kernel_rfl) (by kernel_rfl) (by kernel_rfl) (fun _ _ _ _ h=>h) (by kernel_rfl) HSS ?_ ?_
  rotate_left
  ·intro u hu
   go_simp
   try with_reducible rfl
  try simp only[List.setIfInBounds_toArray,List.set_cons_succ,List.set_cons_zero]
  refine Held.take 1 61 (v:=?_) rfl rfl (by kernel_rfl) (by kernel_rfl) (by kernel_rfl) (fun _ _ _ _ h=>h) (by kernel_rfl) HSS ?_ ?_
  rotate_left
  ·intro u hu
   go_simp
   try with_reducible rfl
  try simp only[List.setIfInBounds_toArray,List.set_cons_succ,List.set_cons_zero]
  refine Held.take 2 62 (v:=?_) rfl rfl (by kernel_rfl) (by kernel_rfl) (by kernel_rfl) (fun _ _ _ _ h=>h) (by kernel_rfl) HSS ?_ ?_
  rotate_left
  ·intro u hu
   go_simp
   try with_reducible rfl
  try simp only[List.setIfInBounds_toArray,List.set_cons_succ,List.set_cons_zero]
  refine Held.take 3 63 (v:=?_) rfl rfl (by kernel_rfl) (by kernel_rfl) (by kernel_rfl) (fun _ _ _ _ h=>h) (by kernel_rfl) HSS ?_ ?_
  rotate_left
  ·intro u hu
   go_simp
   try with_reducible rfl
  try simp only[List.setIfInBounds_toArray,List.set_cons_succ,List.set_cons_zero]
  refine Held.take 4 64 (v:=?_) rfl rfl (by kernel_rfl) (by kernel_rfl) (by kernel_rfl) (fun _ _ _ _ h=>h) (by kernel_rfl) HSS ?_ ?_
  rotate_left
  ·intro u hu
   obtain⟨s1,s2,s3⟩:=HSC.out u hu
   go_simp
   try with_reducible rfl
  try simp only[List.setIfInBounds_toArray,List.set_cons_succ,List.set_cons_zero]
  refine Held.take 5 65 (v:=?_) rfl rfl (by kernel_rfl) (by kernel_rfl) (by kernel_rfl) (fun _ _ _ _ h=>h) (by kernel_rfl) HSS ?_ ?_
  rotate_left
  ·intro u hu
   go_simp
   try with_reducible rfl
  try simp only[List.setIfInBounds_toArray,List.set_cons_succ,List.set_cons_zero]
  refine Held.take 6 66 (v:=?_) rfl rfl (by kernel_rfl) (by kernel_rfl) (by kernel_rfl) (fun _ _ _ _ h=>h) (by kernel_rfl) HSS ?_ ?_
  rotate_left
  ·intro u hu
   go_simp
   try with_reducible rfl
  try simp only[List.setIfInBounds_toArray,List.set_cons_succ,List.set_cons_zero]
  refine Held.take 7 67 (v:=?_) rfl rfl (by kernel_rfl) (by kernel_rfl) (by kernel_rfl) (fun _ _ _ _ h=>h) (by kernel_rfl) HSS ?_ ?_
  rotate_left
  ·intro u hu
   go_simp
   try with_reducible rfl
  try simp only[List.setIfInBounds_toArray,List.set_cons_succ,List.set_cons_zero]
  refine Held.take 8 68 (v:=?_) rfl rfl (by kernel_rfl) (by kernel_rfl) (by kernel_rfl) (fun _ _ _ _ h=>h) (by kernel_rfl) HSS ?_ ?_
  rotate_left
  ·intro u hu
   obtain⟨s1,s2,s3⟩:=HSC.out u hu
   go_simp
   try with_reducible rfl
  try simp only[List.setIfInBounds_toArray,List.set_cons_succ,List.set_cons_zero]
  refine Held.take 9 69 (v:=?_) rfl rfl (by kernel_rfl) (by kernel_rfl) (by kernel_rfl) (fun _ _ _ _ h=>h) (by kernel_rfl) HSS ?_ ?_
  rotate_left
  ·intro u hu
   go_simp
   try with_reducible rfl
  try simp only[List.setIfInBounds_toArray,List.set_cons_succ,List.set_cons_zero]
  refine Held.one 10 rfl (by kernel_rfl) (fun K hK=>?_)
  go_simp
  refine (anewI_any _).mono ?_
  rintro e w6 ⟨rfl,rfl⟩
  refine hK.out _ _ (HSI.out _ _ (S5.out.drew.alloc _) rfl rfl) ?_
  clear hK K HSS
  have HSS:=HSI.out _ _ (S5.out.drew.alloc (.cells #[.int .i64 512,.int .i64 1073741824,.slice none 0 0,.slice none 0 0,.int .i64 0] 400)) rfl rfl
  try simp only[List.setIfInBounds_toArray,List.set_cons_succ,List.set_cons_zero]
  refine Held.take 11 59 (v:=?_) rfl rfl (by kernel_rfl) (by kernel_rfl) (by kernel_rfl) (fun _ _ _ _ h=>h) (by kernel_rfl) HSS ?_ ?_
  rotate_left
  ·intro u hu
   go_simp
   try with_reducible rfl
  try simp only[List.setIfInBounds_toArray,List.set_cons_succ,List.set_cons_zero]
  refine Held.take 12 71 (v:=?_) rfl rfl (by kernel_rfl) (by kernel_rfl) (by kernel_rfl) (fun _ _ _ _ h=>h) (by kernel_rfl) HSS ?_ ?_
  rotate_left
  ·intro u hu
   go_simp
   try with_reducible rfl
  try simp only[List.setIfInBounds_toArray,List.set_cons_succ,List.set_cons_zero]
  refine Held.take 13 72 (v:=?_) rfl rfl (by kernel_rfl) (by kernel_rfl) (by kernel_rfl) (fun _ _ _ _ h=>h) (by kernel_rfl) HSS ?_ ?_
  rotate_left
  ·intro u hu
   go_simp
   try with_reducible rfl
  try simp only[List.setIfInBounds_toArray,List.set_cons_succ,List.set_cons_zero]
  refine Held.take 14 73 (v:=?_) rfl rfl (by kernel_rfl) (by kernel_rfl) (by kernel_rfl) (fun _ _ _ _ h=>h) (by kernel_rfl) HSS ?_ ?_
  rotate_left
  ·intro u hu
   go_simp
   try with_reducible rfl
  try simp only[List.setIfInBounds_toArray,List.set_cons_succ,List.set_cons_zero]
  refine Held.take 15 74 (v:=?_) rfl rfl (by kernel_rfl) (by kernel_rfl) (by kernel_rfl) (fun _ _ _ _ h=>h) (by kernel_rfl) HSS ?_ ?_
  rotate_left
  ·intro u hu
   go_simp
   try with_reducible rfl
  try simp only[List.setIfInBounds_toArray,List.set_cons_succ,List.set_cons_zero]
  refine Held.one 16 rfl (by kernel_rfl) (fun K hK=>?_)
  have s6:=(S5.out.alloc (.cells #[.int .i64 512,.int .i64 1073741824,.slice none 0 0,.slice none 0 0,.int .i64 0] 400)).drew
  have z8:=s6.cell 8
  have zf8:=s6.frozen 8
  have zl8:=s6.lt
  simp only[List.getElem?_toArray,List.getElem?_cons_zero,List.getElem?_cons_succ] at z8
  have s7:=(((S5.out.alloc (.cells #[.int .i64 512,.int .i64 1073741824,.slice none 0 0,.slice none 0 0,.int .i64 0] 400)).set_ 8 (.pointer (some ⟨W4.heap.size,0,none⟩))).drew)
  simp only[List.setIfInBounds_toArray,List.set_cons_succ,List.set_cons_zero] at s7
  go_simp
  have HSS:=HSI.out _ _ s7 rfl rfl
  refine hK.out _ _ HSS ?_
  clear hK K s6 s7 z8 zf8 zl8
  try simp only[List.setIfInBounds_toArray,List.set_cons_succ,List.set_cons_zero]
  refine wpAnyH_done (by kernel_rfl) ?_ _
  clear HSS HSC HSI
  obtain⟨a2,ha2⟩:∃ a2,W4.heap.size=a2:=⟨_,rfl⟩
  have La2:=Lib.hid (show st<=a2 by rw[<-ha2];exact Nat.le_of_lt S5.out.lt)
  rw[ha2]
  obtain⟨W6,hW6⟩:∃ W6,((W4.alloc (.cells #[.int .i64 512,.int .i64 1073741824,.slice none 0 0,.slice none 0 0,.int .i64 0] 400)).setCell ⟨st,8,none⟩ (.pointer (some ⟨a2,0,none⟩))).drew=W6:=⟨_,rfl⟩
  rw[hW6]
  have s6:Blk W6 st 326 #[.int .i64 0,.int .i64 512,.int .i64 1,.slice none 0 0,.pointer (some ⟨a1,0,none⟩),.map (some mp),.pointer (some ⟨hx,0,none⟩),.slice none 0 0,.pointer (some ⟨a2,0,none⟩),.map none,.pointer none,.bool false,.slice none 0 0]:=by rw[<-hW6];simpa using ((S5.out.alloc (.cells #[.int .i64 512,.int .i64 1073741824,.slice none 0 0,.slice none 0 0,.int .i64 0] 400)).set_ 8 (.pointer (some ⟨a2,0,none⟩))).drew
  have a6:Blk W6 a2 400 #[.int .i64 512,.int .i64 1073741824,.slice none 0 0,.slice none 0 0,.int .i64 0]:=by rw[<-hW6,<-ha2];exact ((Blk.new W4 _ _).far ((Blk.new W4 400 #[.int .i64 512,.int .i64 1073741824,.slice none 0 0,.slice none 0 0,.int .i64 0]).ne_ (S5.out.alloc _) (by decide)) _).drew
  have q6:MT st [326] W4 W6:=by rw[<-hW6];exact (MT.setCell ((MT.refl W4).alloc _) (S5.out.alloc _) (by simp) (Nat.le_refl _) _).drew
  have B6:=Lib.hid (B5.out.mt q6 (by decide))
  have G6:=Lib.hid (G5.out.mt q6)
  have H6:=Lib.hid (H5.out.mt q6 (by decide))
  have T6:=Lib.hid (q6.ownsRow T5.out (by decide))
  have M6:=Lib.hid (M5.out.trans q6)
  obtain⟨mq,hmq⟩:∃ mq,W6.heap.size=mq:=⟨_,rfl⟩
  have Lmq:=Lib.hid (show st<=mq by rw[<-hmq];exact Nat.le_of_lt s6.lt)
  have s6':=s6.alloc (.map #[] 0)
  have z9:=s6'.cell 9
  have zf9:=s6'.frozen 9
  have zl9:=s6'.lt
  simp only[List.getElem?_toArray,List.getElem?_cons_zero,List.getElem?_cons_succ] at z9
  have S6:=Lib.hid s6
  have A6:=Lib.hid a6
  clear s6 a6 q6 s6' hW6 ha2 S5 B5 G5 H5 T5 M5
  go_upto_region 11 with fail
  obtain⟨W7,hW7⟩:∃ W7,(W6.alloc (.map #[] 0)).setCell ⟨st,9,none⟩ (.map (some mq))=W7:=⟨_,rfl⟩
  rw[hW7]
  have s7:Blk W7 st 326 #[.int .i64 0,.int .i64 512,.int .i64 1,.slice none 0 0,.pointer (some ⟨a1,0,none⟩),.map (some mp),.pointer (some ⟨hx,0,none⟩),.slice none 0 0,.pointer (some ⟨a2,0,none⟩),.map (some mq),.pointer none,.bool false,.slice none 0 0]:=by rw[<-hW7];simpa using (S6.out.alloc (.map #[] 0)).set_ 9 (.map (some mq))
  have nst:st≠mq:=by rw[<-hmq];exact Nat.ne_of_lt S6.out.lt
  have nmm:mp≠mq:=by rw[<-hmq];exact Nat.ne_of_lt G6.out.lt
  have g7:MapB W7 mq #[] 0:=by
   rw[<-hW7]
   exact (Below.heap_setCell _ _ _ mq (fun e=>nst e.symm)).trans (by rw[<-hmq];exact heap_alloc_new W6 _)
  have q7:MT st [326] W6 W7:=by rw[<-hW7];exact MT.setCell ((MT.refl W6).alloc _) (S6.out.alloc _) (by simp) (Nat.le_refl _) _
  have B7:=Lib.hid (B6.out.mt q7 (by decide))
  have C7:=Lib.hid (A6.out.mt q7 (by decide))
  have G7:=Lib.hid (G6.out.mt q7)
  have H7:=Lib.hid (H6.out.mt q7 (by decide))
  have T7:=Lib.hid (q7.ownsRow T6.out (by decide))
  have M7:=Lib.hid (M6.out.trans q7)
  have S7:=Lib.hid s7
  have Q7:=Lib.hid g7
  have NM:=Lib.hid nmm
  clear s7 q7 g7 nst nmm hW7 hmq z9 zf9 zl9 S6 B6 G6 H6 T6 M6 A6
  obtain⟨SS,hSS⟩:∃ SS:World->Prop,SS=fun W=>W.cell? ⟨st,1,none⟩=some (.int .i64 512)/\W.cell? ⟨st,2,none⟩=some (.int .i64 1)/\st<W.heap.size:=⟨_,rfl⟩
  have HSC:=Lib.hid (fun W (q:SS W)=>(by rw[hSS] at q;exact q:W.cell? ⟨st,1,none⟩=some (.int .i64 512)/\W.cell? ⟨st,2,none⟩=some (.int .i64 1)/\st<W.heap.size))
  have HSI:=Lib.hid (fun W (cs:Array Value) (q:Blk W st 326 cs) (k1:cs[1]? = some (.int .i64 512)) (k2:cs[2]? = some (.int .i64 1))=>(by
   have x1:=q.cell 1
   have x2:=q.cell 2
   rw[k1] at x1
   rw[k2] at x2
   rw[hSS]
   exact⟨x1,x2,q.lt⟩:SS W))
  clear hSS
  have HSS:SS W7.drew:=HSI.out _ _ S7.out.drew rfl rfl
  refine wp_region_held_drew (by kernel_rfl) HSS (fun _=>?_)
  refine Held.take 0 80 (v:=?_) rfl rfl (by kernel_rfl) (by kernel_rfl) (by kernel_rfl) (fun _ _ _ _ h=>h) (by kernel_rfl) HSS ?_ ?_
  rotate_left
  ·intro u hu
   go_simp
   try with_reducible rfl
  try simp only[List.setIfInBounds_toArray,List.set_cons_succ,List.set_cons_zero]
  refine Held.take 1 81 (v:=?_) rfl rfl (by kernel_rfl) (by kernel_rfl) (by kernel_rfl) (fun _ _ _ _ h=>h) (by kernel_rfl) HSS ?_ ?_
  rotate_left
  ·intro u hu
   go_simp
   try with_reducible rfl
  try simp only[List.setIfInBounds_toArray,List.set_cons_succ,List.set_cons_zero]
  refine Held.take 2 82 (v:=?_) rfl rfl (by kernel_rfl) (by kernel_rfl) (by kernel_rfl) (fun _ _ _ _ h=>h) (by kernel_rfl) HSS ?_ ?_
  rotate_left
  ·intro u hu
   go_simp
   try with_reducible rfl
  try simp only[List.setIfInBounds_toArray,List.set_cons_succ,List.set_cons_zero]
  refine Held.take 3 83 (v:=?_) rfl rfl (by kernel_rfl) (by kernel_rfl) (by kernel_rfl) (fun _ _ _ _ h=>h) (by kernel_rfl) HSS ?_ ?_
  rotate_left
  ·intro u hu
   go_simp
   try with_reducible rfl
  try simp only[List.setIfInBounds_toArray,List.set_cons_succ,List.set_cons_zero]
  refine Held.take 4 84 (v:=?_) rfl rfl (by kernel_rfl) (by kernel_rfl) (by kernel_rfl) (fun _ _ _ _ h=>h) (by kernel_rfl) HSS ?_ ?_
  rotate_left
  ·intro u hu
   obtain⟨s1,s2,s3⟩:=HSC.out u hu
   go_simp
   try with_reducible rfl
  try simp only[List.setIfInBounds_toArray,List.set_cons_succ,List.set_cons_zero]
  refine Held.take 5 85 (v:=?_) rfl rfl (by kernel_rfl) (by kernel_rfl) (by kernel_rfl) (fun _ _ _ _ h=>h) (by kernel_rfl) HSS ?_ ?_
  rotate_left
  ·intro u hu
   go_simp
   try with_reducible rfl
  try simp only[List.setIfInBounds_toArray,List.set_cons_succ,List.set_cons_zero]
  refine Held.take 6 86 (v:=?_) rfl rfl (by kernel_rfl) (by kernel_rfl) (by kernel_rfl) (fun _ _ _ _ h=>h) (by kernel_rfl) HSS ?_ ?_
  rotate_left
  ·intro u hu
   go_simp
   try with_reducible rfl
  try simp only[List.setIfInBounds_toArray,List.set_cons_succ,List.set_cons_zero]
  refine Held.take 7 87 (v:=?_) rfl rfl (by kernel_rfl) (by kernel_rfl) (by kernel_rfl) (fun _ _ _ _ h=>h) (by kernel_rfl) HSS ?_ ?_
  rotate_left
  ·intro u hu
   go_simp
   try with_reducible rfl
  try simp only[List.setIfInBounds_toArray,List.set_cons_succ,List.set_cons_zero]
  refine Held.take 8 88 (v:=?_) rfl rfl (by kernel_rfl) (by kernel_rfl) (by kernel_rfl) (fun _ _ _ _ h=>h) (by kernel_rfl) HSS ?_ ?_
  rotate_left
  ·intro u hu
   obtain⟨s1,s2,s3⟩:=HSC.out u hu
   go_simp
   try with_reducible rfl
  try simp only[List.setIfInBounds_toArray,List.set_cons_succ,List.set_cons_zero]
  refine Held.take 9 89 (v:=?_) rfl rfl (by kernel_rfl) (by kernel_rfl) (by kernel_rfl) (fun _ _ _ _ h=>h) (by kernel_rfl) HSS ?_ ?_
  rotate_left
  ·intro u hu
   go_simp
   try with_reducible rfl
  try simp only[List.setIfInBounds_toArray,List.set_cons_succ,List.set_cons_zero]
  refine Held.take 10 90 (v:=?_) rfl rfl (by kernel_rfl) (by kernel_rfl) (by kernel_rfl) (fun _ _ _ _ h=>h) (by kernel_rfl) HSS ?_ ?_
  rotate_left
  ·intro u hu
   go_simp
   try with_reducible rfl
  try simp only[List.setIfInBounds_toArray,List.set_cons_succ,List.set_cons_zero]
  refine Held.take 11 91 (v:=?_) rfl rfl (by kernel_rfl) (by kernel_rfl) (by kernel_rfl) (fun _ _ _ _ h=>h) (by kernel_rfl) HSS ?_ ?_
  rotate_left
  ·intro u hu
   go_simp
   try with_reducible rfl
  try simp only[List.setIfInBounds_toArray,List.set_cons_succ,List.set_cons_zero]
  refine Held.take 12 92 (v:=?_) rfl rfl (by kernel_rfl) (by kernel_rfl) (by kernel_rfl) (fun _ _ _ _ h=>h) (by kernel_rfl) HSS ?_ ?_
  rotate_left
  ·intro u hu
   go_simp
   try with_reducible rfl
  try simp only[List.setIfInBounds_toArray,List.set_cons_succ,List.set_cons_zero]
  refine Held.take 13 93 (v:=?_) rfl rfl (by kernel_rfl) (by kernel_rfl) (by kernel_rfl) (fun _ _ _ _ h=>h) (by kernel_rfl) HSS ?_ ?_
  rotate_left
  ·intro u hu
   obtain⟨s1,s2,s3⟩:=HSC.out u hu
   go_simp
   try with_reducible rfl
  try simp only[List.setIfInBounds_toArray,List.set_cons_succ,List.set_cons_zero]
  refine Held.take 14 94 (v:=?_) rfl rfl (by kernel_rfl) (by kernel_rfl) (by kernel_rfl) (fun _ _ _ _ h=>h) (by kernel_rfl) HSS ?_ ?_
  rotate_left
  ·intro u hu
   go_simp
   try with_reducible rfl
  try simp only[List.setIfInBounds_toArray,List.set_cons_succ,List.set_cons_zero]
  refine Held.take 15 95 (v:=?_) rfl rfl (by kernel_rfl) (by kernel_rfl) (by kernel_rfl) (fun _ _ _ _ h=>h) (by kernel_rfl) HSS ?_ ?_
  rotate_left
  ·intro u hu
   go_simp
   try with_reducible rfl
  try simp only[List.setIfInBounds_toArray,List.set_cons_succ,List.set_cons_zero]
  refine Held.take 16 96 (v:=?_) rfl rfl (by kernel_rfl) (by kernel_rfl) (by kernel_rfl) (fun _ _ _ _ h=>h) (by kernel_rfl) HSS ?_ ?_
  rotate_left
  ·intro u hu
   go_simp
   try with_reducible rfl
  try simp only[List.setIfInBounds_toArray,List.set_cons_succ,List.set_cons_zero]
  refine Held.take 17 97 (v:=?_) rfl rfl (by kernel_rfl) (by kernel_rfl) (by kernel_rfl) (fun _ _ _ _ h=>h) (by kernel_rfl) HSS ?_ ?_
  rotate_left
  ·intro u hu
   obtain⟨s1,s2,s3⟩:=HSC.out u hu
   go_simp
   try with_reducible rfl
  try simp only[List.setIfInBounds_toArray,List.set_cons_succ,List.set_cons_zero]
  refine Held.take 18 98 (v:=?_) rfl rfl (by kernel_rfl) (by kernel_rfl) (by kernel_rfl) (fun _ _ _ _ h=>h) (by kernel_rfl) HSS ?_ ?_
  rotate_left
  ·intro u hu
   go_simp
   try with_reducible rfl
  try simp only[List.setIfInBounds_toArray,List.set_cons_succ,List.set_cons_zero]
  refine Held.take 19 99 (v:=?_) rfl rfl (by kernel_rfl) (by kernel_rfl) (by kernel_rfl) (fun _ _ _ _ h=>h) (by kernel_rfl) HSS ?_ ?_
  rotate_left
  ·intro u hu
   go_simp
   try with_reducible rfl
  try simp only[List.setIfInBounds_toArray,List.set_cons_succ,List.set_cons_zero]
  refine Held.one 20 rfl (by kernel_rfl) (fun K hK=>?_)
  go_simp
  refine (cnew_any _).mono ?_
  rintro e w8 ⟨rfl,rfl⟩
  refine hK.out _ _ (HSI.out _ _ (S7.out.drew.alloc _) rfl rfl) ?_
  clear hK K HSS
  have HSS:=HSI.out _ _ (S7.out.drew.alloc (.cells #[.int .i64 512,.slice none 0 0,.int .i64 513,.slice none 0 0] 377)) rfl rfl
  try simp only[List.setIfInBounds_toArray,List.set_cons_succ,List.set_cons_zero]
  refine Held.take 21 79 (v:=?_) rfl rfl (by kernel_rfl) (by kernel_rfl) (by kernel_rfl) (fun _ _ _ _ h=>h) (by kernel_rfl) HSS ?_ ?_
  rotate_left
  ·intro u hu
   go_simp
   try with_reducible rfl
  try simp only[List.setIfInBounds_toArray,List.set_cons_succ,List.set_cons_zero]
  refine Held.take 22 101 (v:=?_) rfl rfl (by kernel_rfl) (by kernel_rfl) (by kernel_rfl) (fun _ _ _ _ h=>h) (by kernel_rfl) HSS ?_ ?_
  rotate_left
  ·intro u hu
   go_simp
   try with_reducible rfl
  try simp only[List.setIfInBounds_toArray,List.set_cons_succ,List.set_cons_zero]
  refine Held.take 23 102 (v:=?_) rfl rfl (by kernel_rfl) (by kernel_rfl) (by kernel_rfl) (fun _ _ _ _ h=>h) (by kernel_rfl) HSS ?_ ?_
  rotate_left
  ·intro u hu
   go_simp
   try with_reducible rfl
  try simp only[List.setIfInBounds_toArray,List.set_cons_succ,List.set_cons_zero]
  refine Held.take 24 103 (v:=?_) rfl rfl (by kernel_rfl) (by kernel_rfl) (by kernel_rfl) (fun _ _ _ _ h=>h) (by kernel_rfl) HSS ?_ ?_
  rotate_left
  ·intro u hu
   go_simp
   try with_reducible rfl
  try simp only[List.setIfInBounds_toArray,List.set_cons_succ,List.set_cons_zero]
  refine Held.take 25 104 (v:=?_) rfl rfl (by kernel_rfl) (by kernel_rfl) (by kernel_rfl) (fun _ _ _ _ h=>h) (by kernel_rfl) HSS ?_ ?_
  rotate_left
  ·intro u hu
   go_simp
   try with_reducible rfl
  try simp only[List.setIfInBounds_toArray,List.set_cons_succ,List.set_cons_zero]
  refine Held.one 26 rfl (by kernel_rfl) (fun K hK=>?_)
  have s8:=(S7.out.alloc (.cells #[.int .i64 512,.slice none 0 0,.int .i64 513,.slice none 0 0] 377)).drew
  have z8:=s8.cell 10
  have zf8:=s8.frozen 10
  have zl8:=s8.lt
  simp only[List.getElem?_toArray,List.getElem?_cons_zero,List.getElem?_cons_succ] at z8
  have s9:=(((S7.out.alloc (.cells #[.int .i64 512,.slice none 0 0,.int .i64 513,.slice none 0 0] 377)).set_ 10 (.pointer (some ⟨W7.heap.size,0,none⟩))).drew)
  simp only[List.setIfInBounds_toArray,List.set_cons_succ,List.set_cons_zero] at s9
  go_simp
  have HSS:=HSI.out _ _ s9 rfl rfl
  refine hK.out _ _ HSS ?_
  clear hK K s8 s9 z8 zf8 zl8
  try simp only[List.setIfInBounds_toArray,List.set_cons_succ,List.set_cons_zero]
  refine wpAnyH_done (by kernel_rfl) ?_ _
  clear HSS HSC HSI
  go_end0
  obtain⟨c1,hc1⟩:∃ c1,W7.heap.size=c1:=⟨_,rfl⟩
  have Lc1:=Lib.hid (show st<=c1 by rw[<-hc1];exact Nat.le_of_lt S7.out.lt)
  rw[hc1]
  have s9:=((S7.out.alloc (.cells #[.int .i64 512,.slice none 0 0,.int .i64 513,.slice none 0 0] 377)).set_ 10 (.pointer (some ⟨c1,0,none⟩))).drew
  have q9:MT st [326] W7 ((W7.alloc (.cells #[.int .i64 512,.slice none 0 0,.int .i64 513,.slice none 0 0] 377)).setCell ⟨st,10,none⟩ (.pointer (some ⟨c1,0,none⟩))).drew:=(MT.setCell ((MT.refl W7).alloc _) (S7.out.alloc _) (by simp) (Nat.le_refl _) _).drew
  have c9:=((Blk.new W7 377 #[.int .i64 512,.slice none 0 0,.int .i64 513,.slice none 0 0]).far ((Blk.new W7 377 #[.int .i64 512,.slice none 0 0,.int .i64 513,.slice none 0 0]).ne_ (S7.out.alloc _) (by decide)) (p:=⟨st,10,none⟩) (.pointer (some ⟨c1,0,none⟩))).drew
  rw[hc1] at c9
  refine⟨rfl,a1,mp,hx,tb,a2,mq,c1,⟨by simpa using s9,B7.out.mt q9 (by decide),G7.out.mt q9,H7.out.mt q9 (by decide),q9.ownsRow T7.out (by decide),C7.out.mt q9 (by decide),Q7.out.mt q9,c9,NM.out,La1.out,Lmp.out,Ltb.out.2,Ltb.out.1,La2.out,Lmq.out,Lc1.out⟩,M7.out.trans q9⟩
end Go.Proofs.YtgopfpjinohncaaGreatDoor
