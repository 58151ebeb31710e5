/- schema.clone, New, Find, walked. -/
import Derived.Test.YtgopfpjinohncaaGreatDoorRxF
import Derived.Test.YtgopfpjinohncaaGreatDoorKfF
set_option maxHeartbeats 16000000
set_option maxRecDepth 100000
set_option linter.unusedVariables false
namespace Go.Proofs.YtgopfpjinohncaaGreatDoor
open Go.Proofs.Tryz
open Go.RowKit
theorem A4 (cs:List bd):∀ x∈cs.map bd.cells,∀ u∈x,u.oneCell'=true:=by
 intro x hx u hu
 simp at hx
 obtain⟨t,_,rfl⟩:=hx
 simp only[bd.cells,List.mem_cons,List.not_mem_nil,or_false] at hu
 rcases hu with rfl | rfl<;>rfl
theorem uC {w1:World} {y:Nat} {tq:TypeId} {a b a' b':Value} (hz:af w1 y tq #[a',b']) :
 af ((w1.setCell ⟨y,0,none⟩ a).setCell ⟨y,1,none⟩ b) y tq #[a,b]/\aq (fun k=>k=y) w1 ((w1.setCell ⟨y,0,none⟩ a).setCell ⟨y,1,none⟩ b):=by
 have z2:=(hz.set_ 0 a).set_ 1 b
 refine⟨by simpa using z2,((aq.refl (fun k=>k=y) w1).setCell (p:=⟨y,0,none⟩) (fun _=>rfl) a).setCell (p:=⟨y,1,none⟩) (fun _=>rfl) b⟩
theorem vC {g:Nat} {W:World} {x y:Value} {T:Array Value} {Post:Ending->World->Prop} (h:af W g 57 #[x,y]) (h2:T[2]?.getD undef=.pointer (some ⟨g,0,none⟩))
 (hP:Post (.returned (.agg #[x,y])) W):bodyPost prog Tryz.f184 Post Exit.ret { tmps:=T,defers:=[] } W:=by
 have c0:=h.cell 0
 have c1:=h.cell 1
 simp only[FF] at c0 c1
 exact bodyPost_ret (v:=.agg #[x,y]) (by simp [results,results184,go_sem,h2,c0,c1]) rfl hP
theorem jP (w:World) (nm:ByteArray) (v:Value) (cs:List bd) (h:aO w v cs) (hl:cs.length<=5864062014634) :
 Calls prog 184 #[.agg #[.string nm,v]] w fun e w'=>∃ u,e=.returned (.agg #[.string nm,u])/\bV w.heap.size w' u cs/\Below w.heap.size w w':=by
 have hcl:=fun W (hb:Below w.heap.size w W)=>yP W v (cs.map bd.cells) (aj.keep h hb) (jV cs) (A4 cs) (by rw[List.length_map];omega)
 rw[kY,List.length_map] at hcl
 obtain⟨ad,cap,rfl,hnc,hcm⟩:=h.form
 have bx:=(af.new w 57 #[.string nm,.slice ad cs.length cap]).alloc (.cells #[.string ⟨#[]⟩,.slice none 0 0] 57)
 have br:=cM w (.cells #[.string nm,.slice ad cs.length cap] 57) 57 #[.string ⟨#[]⟩,.slice none 0 0]
 have b0:Below w.heap.size w ((w.alloc (.cells #[.string nm,.slice ad cs.length cap] 57)).alloc (.cells #[.string ⟨#[]⟩,.slice none 0 0] 57)):=ae (ae Fy _) _
 have HCL:=Fx hcl
 have BX:=Fx bx
 have BR:=Fx br
 have B0:=Fx b0
 clear h hcl bx br b0
 generalize hN:cs.length=n at *
 have HN:=Fx hN
 clear hN
 go_enter func184,ntmps184
 go_wp2_with fail
 have x0:=BX.out.cell 0
 have x1:=BX.out.cell 1
 simp only[FF] at x0 x1
 have hxl:=BX.out.lt
 go_region_law (go_simp;go_at_call 245;refine (HCL.out _ (ay B0.out)).mono ?_;rintro e w1 ⟨v1,rfl,hown1,hb1⟩;obtain⟨va,vc,rfl⟩:=aB hown1;have xb:=BX.out.drew.below hb1 (by simp<;>omega);have rb:=BR.out.drew.below hb1 (by simp<;>omega);have y0:=xb.cell 0;have yl:=xb.lt;have r0:=rb.cell 0;have r1:=rb.cell 1;have f0:=rb.frozen 0;have f1:=rb.frozen 1;have rl:=rb.lt;simp only[FF] at y0 r0 r1;have hlow:=World.ownsRow.low hown1 (show w.heap.size<=_ by simp<;>omega);have bw:=(ay B0.out).trans (hb1.mono (by simp<;>omega));have HRB:=Fx rb;have HLW:=Fx hlow;have HBW:=Fx bw;clear xb rb hlow bw hown1 hb1)
 all_goals
  have hs:=uC (a:=.string nm) (b:=.slice va n vc) HRB.out
  have HS1:=Fx hs.1
  have HS2:=Fx hs.2
  clear hs r0 r1 f0 f1 y0
  go_wp2_with (exact vC HS1.out rfl ⟨_,rfl,by
   show World.ownsRow _ _ _ _ _ _ _
   rw[HN.out]
   exact (MT.ofMod HS2.out HRB.out (by simp:57∈[57]) (Fz)).ownsRow HLW.out (by decide),aq.own HBW.out HS2.out (by omega)⟩)
theorem D7 (m:Int) (w:World) (h1:1<=m) (h8:m<=8) :
 Calls prog 102 #[.int .i64 m] w fun e w'=>e=.returned (.tuple #[.pointer (some ⟨w.heap.size,0,none⟩),.int .i64 0])/\w'=w.alloc (.cells #[.int .i64 m,.slice none 0 0] 266):=by
 have d1:decide (m<1)=false:=by simp;omega
 have d2:decide (8<m)=false:=by simp;omega
 go_enter func102,ntmps102
 go_wp2_with fail
 go_ret2
 exact⟨rfl,rfl⟩
def iz (d:List aU):Prop:=d.length<=8/\∀ r∈d,r.cols.length<=5
def bE (Q:Nat->Prop) (w:World) (b:Nat) (m:Int) (d:List aU):Prop:=∃ sv,af w b 266 #[.int .i64 m,sv]/\cL Q w sv d/\iz d
section
variable {Q Q' F : Nat -> Prop} {w w' : World} {b : Nat} {m : Int} {d : List aU}
theorem bE.mod (h:bE Q w b m d) (hm:aq F w w') (hb:¬ F b) (hn:∀ k,Q k->¬ F k):bE Q w' b m d:=by
 obtain⟨sv,h1,h2,h3⟩:=h
 exact⟨sv,h1.mod hm hb,h2.mod hm hn,h3⟩
theorem bE.keep (h:bE Q w b m d) (hb:Below w.heap.size w w'):bE Q w' b m d:=h.mod (aq.ofBelow (F:=fun _=>False) hb) (fun f=>f) (fun _ _ f=>f)
theorem bE.mono (h:bE Q w b m d) (hq:∀ k,k<w.heap.size->Q k->Q' k):bE Q' w b m d:=by
 obtain⟨sv,h1,h2,h3⟩:=h
 exact⟨sv,h1,h2.mono hq,h3⟩
theorem iz.at {sv:Value} (h3:iz d) (h:cL Q w sv d):bj w sv d:=h.at (by have:=h3.1;omega) (fun r hr=>by have:=h3.2 r hr;omega)
theorem bE.new (w:World) (m:Int):bE Q (w.alloc (.cells #[.int .i64 m,.slice none 0 0] 266)) w.heap.size m [] :=
 ⟨_,af.new _ _ _,⟨[],World.ownsRow_nil _ _ _ _,fun k hk=>by simp [Value.ownBlock] at hk,trivial⟩,by simp [iz]⟩
theorem bE.lt (h:bE Q w b m d):b<w.heap.size:=by
 obtain⟨sv,h1,_⟩:=h
 exact h1.lt
end
theorem ul {g:Nat} {W:World} {x y z:Value} {T:Array Value} {Post:Ending->World->Prop} (h:af W g 57 #[x,y]) (h2:T[4]?.getD undef=.pointer (some ⟨g,0,none⟩)) (h3:T[5]?.getD undef=z)
 (hP:Post (.returned (.tuple #[.agg #[x,y],z])) W):bodyPost prog Tryz.f234 Post Exit.ret { tmps:=T,defers:=[] } W:=by
 have c0:=h.cell 0
 have c1:=h.cell 1
 simp only[FF] at c0 c1
 exact bodyPost_ret (v:=.tuple #[.agg #[x,y],z]) (by simp [results,results234,go_sem,h2,h3,c0,c1]) rfl hP
def DD (w:World) (d:List aU) (x:List UInt8) (e:Ending) (w':World):Prop :=
 (oB d x = -1/\e=.returned (.tuple #[.agg #[.string ⟨#[]⟩,.slice none 0 0],.bool false])/\Below w.heap.size w w') ∨
 ∃ (k:Nat) (r:aU) (u:Value),oB d x=k/\d[k]? = some r/\r.name=x/\e=.returned (.tuple #[.agg #[.string ⟨r.name.toArray⟩,u],.bool true])/\bV w.heap.size w' u r.cols/\Below w.heap.size w w'
theorem yy {Q:Nat->Prop} (w:World) (b:Nat) (m:Int) (d:List aU) (x:List UInt8) (h:bE Q w b m d) :
 Calls prog 234 #[.pointer (some ⟨b,0,none⟩),.string ⟨x.toArray⟩] w (DD w d x):=by
 obtain⟨sv,hb,ho,hs⟩:=h
 have hat:=hs.at ho
 have hd8:=hs.1
 have hd5:=hs.2
 obtain⟨ad,cap,rfl,hnc,hcm⟩:=hat.form
 unfold maxLen at hcm
 have hres:=af.new w 57 #[.string ⟨#[]⟩,.slice none 0 0]
 have hb0:Below w.heap.size w (w.alloc (.cells #[.string ⟨#[]⟩,.slice none 0 0] 57)):=ae Fy _
 have hx1:=(hb.alloc (.cells #[.string ⟨#[]⟩,.slice none 0 0] 57)).cell 1
 have hxl:=(hb.alloc (.cells #[.string ⟨#[]⟩,.slice none 0 0] 57)).lt
 simp only[FF] at hx1
 have HR:=Fx hat
 have HRES:=Fx hres
 have HB0:=Fx hb0
 have H5:=Fx hd5
 clear hb ho hs hat hres hb0 hd5
 generalize hN:d.length=n at *
 have HN:=Fx hN
 clear hN
 go_enter func234,ntmps234
 go_wp2_with fail
 clear hx1 hxl
 go_loopw [13] (fun i wr=>∃ k:Nat,k<=n/\i=.int .i64 k/\Hid (x ∉ (d.take k).map (·.name))/\Hid (Below w.heap.size w wr)/\Hid (af wr w.heap.size 57 #[.string ⟨#[]⟩,.slice none 0 0])) (fun i _=>n - (intOf i).toNat)
 case atStart=>exact⟨0,Fz,rfl,Fx (by simp),HB0,HRES⟩
 case round =>
  obtain⟨k,hk,rfl,HNI,BW,RB⟩:=hrel
  obtain⟨wo,rfl⟩:∃ wo:World,wo=wr:=⟨_,rfl⟩
  by_cases hlt:k<n
  ·obtain⟨r,hr⟩:∃ r,d[k]? = some r:=⟨d[k]'(by rw[HN.out];exact hlt),FD (by rw[HN.out];exact hlt)⟩
   obtain⟨rb,ro,rcap,cv,hv,_,_,hrl,q0,q1,hcols,hcl⟩:=(HR.out.keep BW.out).get hr
   simp only[HN.out,Value.slice.injEq,true_and] at hv
   obtain⟨rfl,rfl⟩:=hv
   obtain⟨ca,cc,rfl,_,_⟩:=hcols.form
   have hrn:(d.map (·.name))[k]? = some r.name:=by simp [hr]
   have htk:(d.take (k+1)).map (·.name)=(d.take k).map (·.name)++[r.name]:=by
    rw[List.take_add_one,hr]
    simp
   have HTK:=Fx htk
   have HR1:=Fx hr
   have HRN:=Fx hrn
   have hcl2:=jP (wo.alloc (.cells #[.string ⟨r.name.toArray⟩,.slice ca r.cols.length cc] 57)) ⟨r.name.toArray⟩ (.slice ca r.cols.length cc) r.cols (hcols.keep (ae Fy _)) hcl
   have HCL:=Fx hcl2
   clear hr hrn htk hcols hcl2
   by_cases he:r.name=x
   ·have hi:oB d x=k:=by
     unfold oB
     rw[<-he]
     refine nC HRN.out ?_
     rw[he,<-List.map_take]
     exact HNI.out
    have hq:(r.name == x)=true:=by rw[he];exact beq_self_eq_true _
    have HI:=Fx hi
    have HE:=Fx he
    clear hi he
    generalize r.cols.length=cn at *
    go_wp2_with fail
    refine HCL.out.mono ?_
    rintro e w2 ⟨u,rfl,hown,hb2⟩
    obtain⟨ua,uc,rfl⟩:=aB hown
    have hrb2:=(RB.out.alloc (.cells #[.string ⟨r.name.toArray⟩,.slice ca cn cc] 57)).below hb2 (by have:=RB.out.lt;simp;omega)
    have HRB2:=Fx hrb2
    have HO2:=Fx hown
    have HB2:=Fx (BW.out.trans (((ae (Below.refl wo.heap.size wo) (.cells #[.string ⟨r.name.toArray⟩,.slice ca cn cc] 57)).trans (hb2.mono (by simp))).mono BW.out.size))
    have hbz:=BW.out.size
    clear hrb2 hown hb2
    go_wp2_with (refine ar rfl 57 _ _ rfl w.heap.size 57 _ _ rfl rfl HRB2.out (by kernel_rfl) rfl (by simp [Value.oneCell']) ?_)
    intro w3 hb3 hm3 hz3
    have HB3:=Fx hb3
    have HM3:=Fx hm3
    clear hb3 hm3 hz3
    go_wp2_with (exact ul HB3.out rfl rfl (.inr ⟨k,r,_,HI.out,HR1.out,HE.out,rfl,(MT.ofMod HM3.out HRB2.out (by simp:57∈[57]) (Fz)).ownsRow (World.ownsRow.low HO2.out (by simp;omega)) (by decide),aq.own HB2.out HM3.out FA⟩))
   ·have hq:(r.name == x)=false:=by simpa using he
    have HNI2:=Fx (show x ∉ (d.take (k+1)).map (·.name) by
     rw[HTK.out,List.mem_append,List.mem_singleton]
     rintro (h | h)
     ·exact HNI.out h
     ·exact he h.symm)
    clear he
    go_wp2_with fail
    go_roundw
    case rel=>exact⟨k+1,by omega,by go_num,HNI2,Fx (ae BW.out _),Fx (RB.out.alloc _)⟩
    case measure=>simp [intOf];omega
  ·obtain rfl:k=n:=by omega
   have hni:=HNI.out
   rw[List.take_of_length_le (by rw[HN.out];exact FA)] at hni
   have hi:oB d x = -1:=lB hni
   have HI:=Fx hi
   clear hni hi
   go_wp2_with (refine ar rfl 57 _ _ rfl w.heap.size 57 _ _ rfl rfl RB.out (by kernel_rfl) rfl (by simp [Value.oneCell']) ?_)
   intro w3 hb3 hm3 hz3
   have HB3:=Fx hb3
   have HM3:=Fx hm3
   clear hb3 hm3 hz3
   go_wp2_with (exact ul HB3.out rfl rfl (.inl ⟨HI.out,rfl,aq.own BW.out HM3.out FA⟩))
theorem AO {Q:Nat->Prop} (w:World) (b:Nat) (m:Int) (d:List aU) (x:ByteArray) (h:bE Q w b m d) :
 Calls prog 234 #[.pointer (some ⟨b,0,none⟩),.string x] w (DD w d x.data.toList):=by
 have:=yy w b m d x.data.toList h
 simpa using this
def jD (m:Int) (d:List aU) (r:aU):Int:=if cr r.name r.cols≠0 then cr r.name r.cols else if r.name∈d.map (·.name) then 85 else if m<=d.length then 84 else 0
def yJ (m:Int) (d:List aU) (r:aU):List aU:=if jD m d r=0 then d++[r] else d
theorem Bm {m:Int} {d:List aU} {r:aU} (h:cr r.name r.cols≠0):jD m d r=cr r.name r.cols:=by
 unfold jD
 rw[if_pos h]
theorem uS {m:Int} {d:List aU} {r:aU} (h:cr r.name r.cols=0) (h2:r.name∈d.map (·.name)):jD m d r=85:=by
 unfold jD
 rw[if_neg (by rw[h];decide),if_pos h2]
theorem ye {m:Int} {d:List aU} {r:aU} (h:cr r.name r.cols=0) (h2:r.name ∉ d.map (·.name)) (h3:m<=d.length):jD m d r=84:=by
 unfold jD
 rw[if_neg (by rw[h];decide),if_neg h2,if_pos h3]
theorem Dh {m:Int} {d:List aU} {r:aU} (h:cr r.name r.cols=0) (h2:r.name ∉ d.map (·.name)) (h3:¬ m<=d.length):jD m d r=0:=by
 unfold jD
 rw[if_neg (by rw[h];decide),if_neg h2,if_neg h3]
theorem Bp {d:List aU} {x:List UInt8} (h:oB d x = -1):x ∉ d.map (·.name):=by
 intro hm
 unfold oB iE at h
 rw[if_pos hm] at h
 omega
theorem xt {m:Int} {d:List aU} {r:aU} (h:jD m d r≠0):yJ m d r=d:=by
 unfold yJ
 rw[if_neg h]
theorem yD {m:Int} {d:List aU} {r:aU} (h:jD m d r=0):yJ m d r=d++[r]:=by
 unfold yJ
 rw[if_pos h]
def DT (Q:Nat->Prop) (w:World) (b:Nat) (m:Int) (d:List aU) (r:aU) (e:Ending) (w':World):Prop :=
 e=.returned (.int .i64 (jD m d r))/\bE (fun k=>Q k∨w.heap.size<=k) w' b m (yJ m d r)/\aq (fun k=>k=b∨Q k) w w'
theorem Tryz.infoRlA:(prog.info? 57).map (fun i=>(i.zero,i.size,i.bytes))=some (some (.agg #[.string ⟨#[]⟩,.slice none 0 0]),2,40):=by kernel_rfl
theorem xM {d:List aU} {r:aU} {m:Int} (h:iz d) (hm:m<=8) (hc:cr r.name r.cols=0) (hl:¬ m<=d.length):iz (d++[r]):=by
 refine⟨by simp;omega,fun x hx=>?_⟩
 rcases List.mem_append.1 hx with h1 | h1
 ·exact h.2 x h1
 ·simp only[List.mem_singleton] at h1
  subst h1
  exact (eM hc).2.2.1
theorem jL.mt {Q:Nat->Prop} {B:Nat} {ts:List TypeId} {w w':World} {row:List Value} {a:aU} (h:jL Q w row a) (hm:MT B ts w w') (hn:109 ∉ ts):jL Q w' row a:=by
 obtain⟨cv,rfl,h2,h3⟩:=h
 exact⟨cv,rfl,hm.ownsRow h2 hn,h3⟩
theorem CK {Q:Nat->Prop} {w w6 wi:World} {b B g cap:Nat} {m:Int} {d:List aU} {nm:ByteArray} {cs:List bd} {sv u6:Value} {rows:List (List Value)} {o:Obj}
 (hB:af w6 b 266 #[.int .i64 m,sv]) (hR:w6.ownsRow 0 57 2 sv d.length rows.flatten) (hq:Fg Q sv) (hA:aH (jL Q w6) rows d)
 (ho:bV B w6 u6 cs) (hbw:Below w.heap.size w w6) (hwB:w.heap.size<=B)
 (hown:wi.ownsRow 0 57 2 (.slice (some ⟨g,0,none⟩) (d.length+1) cap) (d.length+1) (rows.flatten++[.string nm,u6])) (hg:(w6.alloc o).grownBy wi sv.ownBlock) (hat:sv.ownBlock=some g∨g=(w6.alloc o).heap.size)
 (hQb:¬ Q b) (hE:jD m d ⟨nm.data.toList,cs⟩=0) (hSM:iz (d++[⟨nm.data.toList,cs⟩])) :
 DT Q w b m d ⟨nm.data.toList,cs⟩ (.returned (.int .i64 0)) (wi.setCell ⟨b,1,none⟩ (.slice (some ⟨g,0,none⟩) (d.length+1) cap)):=by
 have hgb:sv.ownBlock≠some b:=fun e=>hQb (hq _ e)
 have yi:af wi b 266 #[.int .i64 m,sv]:=(hB.alloc o).grown hg (fun e=>hgb e.symm)
 have mi:MT 0 [57] w6 wi:=((MT.refl w6).alloc o).grown hg (hR.alloc o) (by simp) (Fz)
 have ms:MT 0 [266] wi (wi.setCell ⟨b,1,none⟩ (.slice (some ⟨g,0,none⟩) (d.length+1) cap)):=MT.setCell (MT.refl wi) yi (by simp) (Fz) _
 have hnm:(⟨nm.data.toList.toArray⟩:ByteArray)=nm:=by simp
 refine⟨by rw[hE],?_,(((aq.ofBelow hbw).alloc o).grown hg (fun k hk _=>.inr (hq k hk))).setCell (p:=⟨b,1,none⟩) (fun _=>.inl rfl) _⟩
 rw[yD hE]
 refine⟨.slice (some ⟨g,0,none⟩) (d.length+1) cap,by simpa using yi.set_ 1 (.slice (some ⟨g,0,none⟩) (d.length+1) cap),⟨rows++[[.string nm,u6]],?_,?_,?_⟩,hSM⟩
 ·rw[List.flatten_append,List.length_append]
  simpa using ms.ownsRow hown (by decide)
 ·intro k hk
  simp [Value.ownBlock] at hk
  subst hk
  rcases hat with h | h
  ·exact .inl (hq _ h)
  ·right
   rw[h]
   simp
   have:=hbw.size
   omega
 ·refine aH.snoc ⟨u6,by rw[hnm],ms.ownsRow (mi.ownsRow (World.ownsRow.low ho (Fz)) (by decide)) (by decide),fun k hk=>.inr ?_⟩ (hA.mono fun row a h=>((h.mt mi (by decide)).mt ms (by decide)).mono (fun k _ hk=>.inl hk))
  have:=(World.ownsRow.lt ho k hk).1
  omega
theorem CV {Q:Nat->Prop} (w:World) (b:Nat) (m:Int) (d:List aU) (nm:ByteArray) (v:Value) (cs:List bd) (h:bE Q w b m d) (hm1:m<=8) (hdm:(d.length:Int)<=m) (hQb:¬ Q b)
 (hcs:aO w v cs) (hl:cs.length<=5864062014634) (hn:nm.size<=140737488355328) (hc:∀ c∈cs,c.x.length<=140737488355328) :
 Calls prog 180 #[.pointer (some ⟨b,0,none⟩),.agg #[.string nm,v]] w (DT Q w b m d ⟨nm.data.toList,cs⟩):=by
 obtain⟨ir,hir,hr0,hr1,hr2⟩:=info_parts Tryz.infoRlA
 obtain⟨W0,hW0⟩:∃ W0,w.alloc (.cells #[.string nm,v] 57)=W0:=⟨_,rfl⟩
 have hb0:Below w.heap.size w W0:=by rw[<-hW0];exact ae Fy _
 have hbx:af W0 w.heap.size 57 #[.string nm,v]:=by rw[<-hW0];exact af.new _ _ _
 have hz0:W0.heap.size=w.heap.size+1:=by rw[<-hW0];simp
 have hs0:=h.keep hb0
 have hbl:=h.lt
 have HCH:=Fx (lu W0 nm v cs (hcs.keep hb0) hn hc)
 have HS0:=Fx hs0
 have HB0:=Fx hb0
 have HBX:=Fx hbx
 have HCS:=Fx (hcs.keep hb0)
 have HW0:=Fx hW0
 have HZ0:=Fx hz0
 have HQB:=Fx hQb
 have HEK:=Fx (fun (hk:cr nm.data.toList cs≠0)=>Bm (m:=m) (d:=d) (r:=⟨nm.data.toList,cs⟩) hk)
 have HET:=Fx (fun (hk:cr nm.data.toList cs=0) (h2:nm.data.toList∈d.map (·.name))=>uS (m:=m) (d:=d) (r:=⟨nm.data.toList,cs⟩) hk h2)
 have HEF:=Fx (fun (hk:cr nm.data.toList cs=0) (h2:nm.data.toList ∉ d.map (·.name)) (h3:m<=d.length)=>ye (r:=⟨nm.data.toList,cs⟩) hk h2 h3)
 have HEO:=Fx (fun (hk:cr nm.data.toList cs=0) (h2:nm.data.toList ∉ d.map (·.name)) (h3:¬ m<=d.length)=>Dh (r:=⟨nm.data.toList,cs⟩) hk h2 h3)
 have HSM:=Fx (fun (hk:cr nm.data.toList cs=0) (h3:¬ m<=d.length) (hs:iz d)=>xM (r:=⟨nm.data.toList,cs⟩) hs hm1 hk h3)
 obtain⟨va,vc,rfl,_,_⟩:=hcs.form
 clear h hs0 hb0 hbx hW0 hz0 hcs hc hQb
 generalize hck:cr nm.data.toList cs=ck at *
 have HCK:=Fx hck
 clear hck
 have hsame:∀ (w':World) (n:Int),n≠0->jD m d ⟨nm.data.toList,cs⟩=n->Below w.heap.size w w'->bE Q w' b m d->DT Q w b m d ⟨nm.data.toList,cs⟩ (.returned (.int .i64 n)) w':=by
  intro w' n h0 he hb hs
  refine⟨by rw[he],?_,aq.ofBelow hb⟩
  rw[xt (by rw[he];exact h0)]
  exact hs.mono fun k _ hk=>.inl hk
 have HSAME:=Fx hsame
 clear hsame
 by_cases hk0:ck=0
 ·have q0:(ck != 0)=false:=by simp [hk0]
  have HK0:=Fx hk0
  clear hk0
  go_enter func180,ntmps180
  go_wp2_with fail
  rw[HW0.out]
  refine HCH.out.mono ?_
  rintro e w1 ⟨rfl,hb1⟩
  have hs1:=HS0.out.keep hb1
  have hbx1:=HBX.out.below hb1 HBX.out.lt
  have hcs1:=aO.keep HCS.out hb1
  have x0:=hbx1.cell 0
  have x1:=hbx1.cell 1
  have xl:=hbx1.lt
  simp only[FF] at x0 x1
  have HF:=Fx (AO w1 b m d nm hs1)
  have HB1:=Fx (HB0.out.trans (hb1.mono HB0.out.size))
  have HS1:=Fx hs1
  have HX1:=Fx hbx1
  have HCS1:=Fx hcs1
  clear hs1 hbx1 hcs1 hb1 HCH
  go_wp2_with fail
  refine HF.out.mono ?_
  rintro e w2 (⟨hi,rfl,hb2⟩ | ⟨k,r,u,hi,hr,hnm,rfl,hown,hb2⟩)
  ·have hno:=Bp hi
   have bk2:Below w2.heap.size w2 (w2.alloc (.cells #[.string ⟨#[]⟩,.slice none 0 0] 57)):=ae Fy _
   have hb12:Below w1.heap.size w1 (w2.alloc (.cells #[.string ⟨#[]⟩,.slice none 0 0] 57)):=hb2.trans (bk2.mono hb2.size)
   obtain⟨W2,hW2⟩:∃ W2,w2.alloc (.cells #[.string ⟨#[]⟩,.slice none 0 0] 57)=W2:=⟨_,rfl⟩
   rw[hW2] at hb12
   obtain⟨sv,hsb,hso,hsm⟩:=HS1.out.keep hb12
   have hsat:=hsm.at hso
   obtain⟨sa,sc,rfl,hsn,hscm⟩:=hsat.form
   unfold maxLen at hscm
   have hbx2:=HX1.out.below hb12 HX1.out.lt
   have y0:=hsb.cell 0
   have y1:=hsb.cell 1
   have yl:=hsb.lt
   have x0:=hbx2.cell 0
   have x1:=hbx2.cell 1
   have xl:=hbx2.lt
   simp only[FF] at y0 y1 x0 x1
   have HB2:=Fx (HB1.out.trans (hb12.mono HB1.out.size))
   have HNO:=Fx hno
   have HSB:=Fx hsb
   have HSO:=Fx hso
   have HSS:=Fx hsm
   have HX2:=Fx hbx2
   have hcs2:=aO.keep HCS1.out hb12
   have HCS2:=Fx hcs2
   have HW2:=Fx hW2
   have hd8:=hsm.1
   clear hi hno bk2 hb2 hb12 hW2 hsb hso hsm hsat hbx2 hcs2 HF
   generalize hdn:d.length=dn at *
   have HDN:=Fx hdn
   clear hdn
   by_cases hfull:(dn:Int)=m
   ·have q1:((dn:Int) == m)=true:=by simpa using hfull
    have he:=HEF.out HK0.out HNO.out (by omega)
    have HE:=Fx he
    have hs2:bE Q W2 b m d:=⟨_,HSB.out,HSO.out,HSS.out⟩
    have HS2:=Fx hs2
    clear he hs2 hfull
    go_wp2_with fail
    rw[HW2.out]
    go_quiet (fail)
    go_wp2_with fail
    go_ret
    exact HSAME.out _ 84 (by decide) HE.out (dC HB2.out _) (HS2.out.keep (dC Fy _))
   ·have q1:((dn:Int) == m)=false:=by simpa using hfull
    have he:=HEO.out HK0.out HNO.out (by omega)
    have hsm2:=HSM.out HK0.out (by omega) HSS.out
    have HE:=Fx he
    have HSM2:=Fx hsm2
    have HCLN:=Fx (fun W (hW:Below W2.heap.size W2 W)=>jP W nm (.slice va cs.length vc) cs (aO.keep HCS2.out hW) hl)
    clear he hsm2 hfull
    go_wp2_with fail
    rw[HW2.out]
    obtain⟨rows,hrw,hqv,hall⟩:=HSO.out
    rw[HDN.out] at hrw
    have HRW:=Fx hrw
    have HQV:=Fx hqv
    have HAL:=Fx hall
    have f1:=HSB.out.frozen 1
    clear hrw hqv hall
    go_quiet (fail)
    go_wp2_with fail
    go_region_law (first
     | (go_simp;go_at_call 184;refine (HCLN.out _ (dC (Below.refl _ W2) _)).mono ?_;rintro e w6 ⟨u6,rfl,hown6,hb6⟩;obtain⟨va6,vc6,rfl⟩:=aB hown6;have m6:Below W2.heap.size W2 w6:=dZ (dC (Below.refl _ W2) _) hb6;have sb6:=HSB.out.below m6 HSB.out.lt;have y16:=sb6.cell 1;have yl6:=sb6.lt;have f16:=sb6.frozen 1;simp only[FF] at y16;have HB6:=Fx sb6;have HJ6:=Fx ((MT.ofBelow (Ts:=[]) (B:=0) m6).ownsRow HRW.out (by simp));have HM6:=Fx m6;have HO6:=Fx hown6;clear m6 sb6 hown6 hb6)
     | (refine step_append_lies _ rfl (.tmp 35) (.tmp 38) 22 rfl 0 57 ir (.agg #[.string ⟨#[]⟩,.slice none 0 0]) 2 40 underlying22 hir hr0 hr1 hr2 rfl (by decide) (.slice sa dn sc) dn _ rfl (HJ6.out.alloc _) ⟨_,0,none⟩ 1 1 [.string nm,.slice va6 cs.length vc6] rfl rfl (World.news_of_block (af.new _ _ _)) (by simp [Value.oneCell']) (by decide) (by unfold maxLen;omega) (by omega) (Fz) _ rfl ?_;intro g3 cap3 wi hown3 hgrow3 hat3 hlt3;have yi:=(HB6.out.alloc (.cells #[.string nm,.slice va6 cs.length vc6] 57)).grown hgrow3 (fun e=>HQB.out (HQV.out _ e.symm));have z2:=yi.cell 1;have zf:=yi.frozen 1;have zl:=yi.lt;simp only[FF] at z2;clear yi))
    all_goals
     have hend:=CK (w:=w) HB6.out (by rw[HDN.out];exact HJ6.out) HQV.out (HAL.out.mono fun row a h=>h.mt (MT.ofBelow (Ts:=[]) (B:=0) HM6.out) (by simp)) HO6.out (HB2.out.trans (HM6.out.mono HB2.out.size)) (by simp;have:=HB2.out.size;omega) (by rw[HDN.out];exact hown3) hgrow3 hat3 HQB.out HE.out HSM2.out
     rw[HDN.out] at hend
     have HEND:=Fx hend
     clear hend hown3 hgrow3 hat3
     go_wp2_with fail
     go_ret
     exact HEND.out
  ·have hm':nm.data.toList∈d.map (·.name):=List.mem_map.2 ⟨r,FC hr,hnm⟩
   have he:=HET.out HK0.out hm'
   obtain⟨ua,uc,rfl⟩:=aB hown
   have hcn:r.name=nm.data.toList:=hnm
   have bk2:Below w1.heap.size w1 (w2.alloc (.cells #[.string ⟨r.name.toArray⟩,.slice ua r.cols.length uc] 57)):=ae hb2 _
   have HE:=Fx he
   have HB2:=Fx (HB1.out.trans (bk2.mono HB1.out.size))
   have HS2:=Fx (HS1.out.keep bk2)
   clear hi hr hnm hm' he hown bk2 hb2 hcn HF
   generalize r.cols.length=rn at *
   go_wp2_with fail
   go_ret
   exact HSAME.out _ 85 (by decide) HE.out HB2.out HS2.out
 ·have q0:(ck != 0)=true:=by simpa using hk0
  have he:=HEK.out hk0
  have HE:=Fx he
  have HK0:=Fx hk0
  clear hk0 he
  go_enter func180,ntmps180
  go_wp2_with fail
  rw[HW0.out]
  refine HCH.out.mono ?_
  rintro e w1 ⟨rfl,hb1⟩
  have HB1:=Fx (HB0.out.trans (hb1.mono HB0.out.size))
  have HS1:=Fx (HS0.out.keep hb1)
  clear hb1 HCH
  go_wp2_with fail
  go_ret
  exact HSAME.out _ ck HK0.out (by rw[HE.out]) HB1.out HS1.out
