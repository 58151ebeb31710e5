/- osierref09.Texts, Copy, walked. -/
import Derived.Test.YtgopfpjinohncaaGreatDoorBaF
import Derived.RegionDies
set_option maxHeartbeats 16000000
set_option maxRecDepth 100000
set_option linter.unusedVariables false
namespace Go.Proofs.YtgopfpjinohncaaGreatDoor
open Go.Proofs.Tryz
open Go.RowKit
theorem rV (l:List (List UInt8)):∀ x∈l.map bO,x.length=1:=by
 intro x hx
 simp at hx
 obtain⟨t,_,rfl⟩:=hx
 rfl
theorem r7 (l:List (List UInt8)):∀ x∈l.map bO,∀ u∈x,u.oneCell'=true:=by
 intro x hx u hu
 simp at hx
 obtain⟨t,_,rfl⟩:=hx
 simp only[bO,List.mem_cons,List.not_mem_nil,or_false] at hu
 subst hu
 rfl
theorem vi (w:World) (v:Value) (l:List (List UInt8)) (h:aI w v l) :
 Calls prog 17 #[v] w fun e w'=>∃ v',e=.returned v'/\aV w.heap.size w' v' l/\Below w.heap.size w w':=by
 obtain⟨i0,hi0,hz0,hz1,hz2⟩:=info_parts Tryz.infoStr
 obtain⟨ad,cap,rfl,hnc,hcm⟩:=h.form
 have hln:=h.len
 unfold maxLen at hcm
 have HR:Hid (aj w (.slice ad l.length cap) 1 (l.map bO)):=Fx h
 have HL:=Fx (rV l)
 have HO:=Fx (r7 l)
 have hlen:(l.map bO).length=l.length:=by simp
 have hfl:=gj l
 have hos:∀ (w':World) (v':Value),w'.ownsRow w.heap.size 9 1 v' l.length (l.map bO).flatten->aV w.heap.size w' v' l:=fun w' v' hh=>by
  unfold aV
  rw[<-gj]
  exact hh
 generalize l.map bO=xs at *
 generalize hN:l.length=n at *
 have HX:=Fx hlen
 have HOS:=Fx hos
 clear h hN hlen hfl hos
 go_enter func17,ntmps17
 go_wp2_with (at_make;refine wpList_make_full _ rfl _ _ 28 rfl w.heap.size 9 i0 (.string ⟨#[]⟩) 1 underlying28 hi0 hz0 hz1 _ _ _ _ n rfl rfl rfl rfl ?b2 ?b3 ?b4 ?_)
 case b2=>rw[hz2];omega
 case b3=>unfold maxLen;omega
 case b4=>omega
 intro w2 hown2 hgrow2
 have hbw2:Below w.heap.size w w2:=(Below.refl _ w).grown hgrow2 FA (fun q hq=>by cases hq)
 have HOW2:=Fx hown2
 have HBW2:=Fx hbw2
 have HR2:=Fx (HR.out.keep hbw2)
 clear hbw2 hown2 hgrow2
 go_wp2_with (refine ci rfl _ _ _ _ rfl 9 1 underlying28 (by kernel_rfl) w.heap.size n _ rfl rfl _ w.heap.size HOW2.out xs HR2.out HX.out HL.out HO.out FA ?_)
 intro w3 hown3 hmod3 hsz3
 have HOW3:=Fx (HOS.out _ _ hown3)
 have HBW3:=Fx (aq.own HBW2.out hmod3 FA)
 clear hown3 hmod3 hsz3
 go_wp2_with fail
 go_ret
 exact⟨_,rfl,HOW3.out,HBW3.out⟩
theorem mT {w1:World} {y:Nat} {tq:TypeId} {a b c a' b' c':Value} (hz:af w1 y tq #[a',b',c']) :
 af (((w1.setCell ⟨y,0,none⟩ a).setCell ⟨y,1,none⟩ b).setCell ⟨y,2,none⟩ c) y tq #[a,b,c]/\MT 0 [tq] w1 (((w1.setCell ⟨y,0,none⟩ a).setCell ⟨y,1,none⟩ b).setCell ⟨y,2,none⟩ c) /\
 (∀ (g:Nat) (t:TypeId) (cs:Array Value),g≠y->af w1 g t cs->af (((w1.setCell ⟨y,0,none⟩ a).setCell ⟨y,1,none⟩ b).setCell ⟨y,2,none⟩ c) g t cs) /\
 ∀ (B:Nat) (w0:World),B<=y->Below B w0 w1->Below B w0 (((w1.setCell ⟨y,0,none⟩ a).setCell ⟨y,1,none⟩ b).setCell ⟨y,2,none⟩ c):=by
 have z1:=hz.set_ 0 a
 have z2:=z1.set_ 1 b
 have z3:=z2.set_ 2 c
 refine⟨by simpa using z3,?_,fun g t cs hg hb=>((hb.far hg _).far hg _).far hg _,fun B w0 hB hb=>((hb.setCell (p:=⟨y,0,none⟩) hB _).setCell (p:=⟨y,1,none⟩) hB _).setCell (p:=⟨y,2,none⟩) hB _⟩
 exact MT.setCell (MT.setCell (MT.setCell (MT.refl w1) hz (by simp) (Fz) a) z1 (by simp) (Fz) b) z2 (by simp) (Fz) c
theorem yQ {B:Nat} {w:World} {v:Value} {n:Nat} {rows:List (List Value)} {al:List eb} (h:w.ownsRow B 105 2 v n rows.flatten) (hn:n=al.length) (h2:aH (mg B w) rows al) (hl:al.length<=8796093022208) (ht:∀ a∈al,a.ts.length<=2932031007317):aK w v al:=by
 have hll:=h2.length
 refine⟨rows,aj.ofOwn h (by omega) ?_ (by omega),ep h2 fun c x hx hr=>?_⟩
 ·intro c hc
  obtain⟨x,_,tv,rfl,_⟩:=bm h2 c hc
  rfl
 ·obtain⟨tv,rfl,ho⟩:=hr
  rw[<-iq] at ho
  refine⟨tv,rfl,aj.ofOwn ho (by simp) (ri _) (by have:=ht x hx;simp;omega),ht x hx⟩
theorem aK.small {w:World} {v:Value} {al:List eb} (h:aK w v al):∀ a∈al,a.ts.length<=2932031007317:=by
 intro a ha
 obtain⟨i,hi⟩:=List.getElem?_of_mem ha
 obtain⟨_,_,_,_,_,_,_,_,_,_,_,h9⟩:=h.get hi
 exact h9
theorem Tryz.infoChg:(prog.info? 68).map (fun i=>(i.zero,i.size,i.bytes))=some (some (.agg #[.bool false,.string ⟨#[]⟩,.slice none 0 0]),3,48):=by kernel_rfl
theorem vS {xs:List kS} {a b:kS} (h:a.2=b.2):dg (xs++[a])=dg (xs++[b]):=by
 rw[gJ,gJ,h]
def JB (B n b r ov:Nat) (w:World) (bv:Value) (xs:List kS):Prop :=
 dD w b r/\af w ov 3 #[.int .i64 (dg xs)]/\af w n 53 #[bv]/\cK B w bv (xs.map (·.1))
def F1 (n:Nat) (w:World) (bv:Value) (k:Nat):Prop:=k=n∨(n+3<=k/\DO w [213,3] k)∨bv.ownBlock=some k
def DK (B n b r ov:Nat) (vt:Value) (w:World) (bv:Value) (xs:List kS):PR kS->Ending->World->Prop
 | .bad a f,e,w'=>e=.panicked [{ v:=aP a f,recovered:=false }]/\MT (n+3) [213,3] w w'
 | .ok x c',e,w'=>∃ bv' rv,e=.returned (.agg #[.bool x.1.add,.string ⟨x.1.rel.toArray⟩,rv])/\rv.oneCell'=true/\JB B n b r ov w' bv' (xs++[x])/\Rs w' r c' vt/\aq (F1 n w bv) w w' /\
    ∀ k,bv'.ownBlock=some k->bv.ownBlock=some k∨w.heap.size<=k
theorem Ee (w:World) (o:Obj):TX ((w.alloc o).alloc (.cells #[.string ⟨#[43]⟩,.string ⟨#[45]⟩] 9)) (.slice (some ⟨w.heap.size+1,0,none⟩) 2 2) lz:=by
 have hbs:=cM w o 9 #[.string ⟨#[43]⟩,.string ⟨#[45]⟩]
 refine⟨by simp,some ⟨w.heap.size+1,0,none⟩,2,rfl,.inr ⟨w.heap.size+1,0,rfl,hbs.lt,?_⟩⟩
 intro j s hj
 match j with
 | 0=>simp at hj;subst hj;exact hbs.cell 0
 | 1=>simp at hj;subst hj;exact hbs.cell 1
 | j+2=>simp at hj
theorem xZ {B g cap L:Nat} {w9:World} {rows:List (List Value)} {l:List eP} {x:eP} {rv:Value} (hL:l.length=L)
 (hown:w9.ownsRow B 68 3 (.slice (some ⟨g,0,none⟩) (L+1) cap) (L+1) (rows.flatten++[.bool x.add,.string ⟨x.rel.toArray⟩,rv]))
 (hall:aH (tR B w9) rows l) (hrow:w9.ownsRow B 111 3 rv x.row.length (x.row.map Vl.cells).flatten):cK B w9 (.slice (some ⟨g,0,none⟩) (L+1) cap) (l++[x]):=by
 subst hL
 refine⟨rows++[[.bool x.add,.string ⟨x.rel.toArray⟩,rv]],?_,aH.snoc ⟨rv,rfl,hrow⟩ hall⟩
 rw[List.flatten_append,List.length_append]
 simpa using hown
theorem oh {B n b r ov:Nat} {w:World} {bv:Value} {c:List ak} {vt:Value} {xs:List kS} (hj:JB B n b r ov w bv xs) (h:Rs w r c vt) (hBn:B<=n+3) (hB:n+3<=r) (hw:n+3<=w.heap.size) (hov:n+3<=ov) (hlen:xs.length+c.length<=200000) :
 Calls prog 143 #[.pointer (some ⟨b,0,none⟩),.pointer (some ⟨n,0,none⟩),.pointer (some ⟨ov,0,none⟩)] w (DK B n b r ov vt w bv xs (eJ c)):=by
 obtain⟨ic,hic,hc0,hc1,hc2⟩:=info_parts Tryz.infoChg
 have hmf:∀ (fn:Fn) (first cap:Array Value) (w:World),(Instr.makeFunc fn first cap).run prog w=.ok (.func fn first cap) w:=fun _ _ _ _=>rfl
 have hf1:∀ (a b c d e f:Value) (w:World),(Instr.field 122 (.agg #[a,b,c,d,e,f]) 1).run prog w=.ok b w:=fun _ _ _ _ _ _ _=>by kernel_rfl
 obtain⟨hi,hob,hnb,rows,hown,hall⟩:=hj
 rw[List.length_map] at hown
 obtain⟨ba,bc,rfl⟩:=aB hown
 have hb0:Below w.heap.size w ((w.alloc (.cells #[.bool false,.string ⟨#[]⟩,.slice none 0 0] 68)).alloc (.cells #[.string ⟨#[43]⟩,.string ⟨#[45]⟩] 9)):=ae (ae Fy _) _
 have htk:=cN (B:=n+3) (Ts:=[213]) (h.keep hb0) 3 lz _ (Ee w _) hB (by simp)
 have zb:=(af.new w 68 #[.bool false,.string ⟨#[]⟩,.slice none 0 0]).alloc (.cells #[.string ⟨#[43]⟩,.string ⟨#[45]⟩] 9)
 have x0:=af.cell hi 0
 have hbl:=af.lt hi
 have hol:=hob.lt
 have hnl:=hnb.lt
 simp at x0
 have HI:=Fx hi
 have HOB:=Fx hob
 have HNB:=Fx hnb
 have HOWN:=Fx hown
 have HALL:=Fx hall
 have HLT:=Fx (fun k hk=>(World.ownsRow.lt hown k hk).2)
 have HB0:=Fx hb0
 have ZB:=Fx zb
 obtain⟨L,hL⟩:∃ L,xs.length=L:=⟨_,rfl⟩
 rw[hL] at HNB HOWN HLT hlen ⊢
 have HL:=Fx hL
 clear h hb0 zb hi hob hnb hown hall hL
 obtain⟨Q,hQ⟩:∃ Q,Q=eJ c:=⟨_,rfl⟩
 rw[<-hQ]
 have HQ:=Fx hQ
 clear hQ
 cases h0:tk 3 lz c with
 | bad a e =>
   have hq:=HQ.out
   rw[kg h0] at hq
   subst hq
   rw[h0] at htk
   have HTK:=Fx htk
   clear h0 htk
   go_enter func143,ntmps143
   go_wp2_with fail
   refine HTK.out.mono ?_
   rintro e w1 ⟨rfl,hm⟩
   have HM:=Fx hm
   clear hm
   go_wp2_with fail
   exact⟨rfl,rfl,(MT.ofBelow HB0.out).trans (HM.out.wide (by simp))⟩
 | ok t c1 =>
   rw[h0] at htk
   have HTK:=Fx htk
   have H0:=Fx h0
   have hl1:=cA _ _ _ _ _ h0
   clear htk h0
   go_enter func143,ntmps143
   go_wp2_with fail
   refine HTK.out.mono ?_
   rintro e w1 ⟨v,rfl,⟨rfl,hr1⟩,hm1⟩
   have m1:MT (n+3) [213] w w1:=(MT.ofBelow HB0.out).trans hm1
   have hob1:=HOB.out.mt m1 (by decide)
   have hnb1:=HNB.out.mt m1 (by decide)
   have o0:=hob1.cell 0
   have of0:=hob1.frozen 0
   have n0:=hnb1.cell 0
   have hol1:=hob1.lt
   have hnl1:=hnb1.lt
   simp only[List.getElem?_toArray,List.getElem?_cons_zero] at o0 n0
   have HI1:=Fx (show dD w1 b r from af.mt HI.out m1 (by decide))
   have HOB1:=Fx hob1
   have HNB1:=Fx hnb1
   have HOWN1:=Fx (m1.ownsRow HOWN.out (by decide))
   have HALL1:=Fx (HALL.out.mono fun q a hh=>hh.mt m1 (by decide))
   have HZ1:=Fx (ZB.out.mt hm1 (by decide))
   have HR1:=Fx hr1
   have HM1:=Fx m1
   have hzl1:=HZ1.out.lt
   clear m1 hob1 hnb1 hr1 hm1 HTK HI HOB HNB HOWN HALL ZB HB0
   unfold ak.v
   by_cases hL:L=256
   case' pos =>
    have hov1:dg xs = -1:=qf (by rw[HL.out];omega)
    have hsn:dg (xs++[jn t t []])=t.p:=by rw[gJ,HL.out,if_pos hL];rfl
    rw[hov1] at o0 HOB1
    have hLd:((L:Int) == 256)=true:=by simp [hL]
    clear hL
    have ms:MT (n+3) [3] w1 ((w1.setCell ⟨ov,0,none⟩ (.int .i64 t.p)).alloc (.cells #[.int .i64 t.k,.string ⟨t.x.toArray⟩,.int .i64 t.vk,.int .i64 t.vn,.string ⟨t.vt.toArray⟩,.int .i64 t.p] 122)):=(MT.setCell (MT.refl w1) HOB1.out (by simp) hov _).alloc _
    have ob2:=(HOB1.out.set_ 0 (.int .i64 t.p)).alloc (.cells #[.int .i64 t.k,.string ⟨t.x.toArray⟩,.int .i64 t.vk,.int .i64 t.vn,.string ⟨t.vt.toArray⟩,.int .i64 t.p] 122)
    simp only[Array.setIfInBounds] at ob2
    have HOBX:Hid (af _ ov 3 #[.int .i64 (dg (xs++[jn t t []]))]):=Fx (by rw[hsn];simpa using ob2)
    have hta:=mF w1 ⟨ov,0,none⟩ (.int .i64 t.p) 122 #[.int .i64 t.k,.string ⟨t.x.toArray⟩,.int .i64 t.vk,.int .i64 t.vn,.string ⟨t.vt.toArray⟩,.int .i64 t.p]
    have HTA:=Fx hta
    obtain⟨wx,hwx⟩:∃ wx,(w1.setCell ⟨ov,0,none⟩ (.int .i64 t.p)).alloc (.cells #[.int .i64 t.k,.string ⟨t.x.toArray⟩,.int .i64 t.vk,.int .i64 t.vn,.string ⟨t.vt.toArray⟩,.int .i64 t.p] 122)=wx:=⟨_,rfl⟩
    rw[hwx] at ms HOBX HTA
    have HMS:=Fx ms
    have HWX:=Fx hwx
    clear ms ob2 hta hwx hsn hov1
    go_wp2_with fail
    rw[HWX.out]
   case' neg =>
    have hLd:((L:Int) == 256)=false:=by simpa using fun e=>hL (by omega)
    have hsn:dg (xs++[jn t t []])=dg xs:=by rw[gJ,HL.out,if_neg hL]
    have bk:=ae (Below.refl _ w1) (.cells #[.int .i64 t.k,.string ⟨t.x.toArray⟩,.int .i64 t.vk,.int .i64 t.vn,.string ⟨t.vt.toArray⟩,.int .i64 t.p] 122)
    have ob:=HOB1.out.alloc (.cells #[.int .i64 t.k,.string ⟨t.x.toArray⟩,.int .i64 t.vk,.int .i64 t.vn,.string ⟨t.vt.toArray⟩,.int .i64 t.p] 122)
    rw[<-hsn] at ob
    have HOBX:=Fx ob
    have HTA:=Fx (af.new w1 122 #[.int .i64 t.k,.string ⟨t.x.toArray⟩,.int .i64 t.vk,.int .i64 t.vn,.string ⟨t.vt.toArray⟩,.int .i64 t.p])
    have ms:MT (n+3) [3] w1 (w1.alloc (.cells #[.int .i64 t.k,.string ⟨t.x.toArray⟩,.int .i64 t.vk,.int .i64 t.vn,.string ⟨t.vt.toArray⟩,.int .i64 t.p] 122)):=MT.ofBelow bk
    obtain⟨wx,hwx⟩:∃ wx,w1.alloc (.cells #[.int .i64 t.k,.string ⟨t.x.toArray⟩,.int .i64 t.vk,.int .i64 t.vn,.string ⟨t.vt.toArray⟩,.int .i64 t.p] 122)=wx:=⟨_,rfl⟩
    rw[hwx] at ms HOBX HTA
    have HMS:=Fx ms
    have HWX:=Fx hwx
    clear bk ob ms hwx hsn
    go_wp2_with fail
    rw[HWX.out]
   all_goals
    have hix:dD wx b r:=af.mt HI1.out HMS.out (by decide)
    have x0:=af.cell hix 0
    have xl:=af.lt hix
    have d1:=HTA.out.cell 1
    have dl:=HTA.out.lt
    simp only[FF] at x0 d1
    have HIX:=Fx hix
    have HNX:=Fx (HNB1.out.mt HMS.out (by decide))
    have HOX:=Fx (HMS.out.ownsRow HOWN1.out (by decide))
    have HAX:=Fx (HALL1.out.mono fun q a hh=>hh.mt HMS.out (by decide))
    have HZX:=Fx (HZ1.out.mt HMS.out (by decide))
    have HRX:=Fx (HR1.out.mt HMS.out (by decide) (by decide))
    have HMX:=Fx ((HM1.out.wide (Ts':=[213,3]) (by simp)).trans (HMS.out.wide (by simp)))
    have hwx1:=HMX.out.size
    have HMX1:=Fx hwx1
    have HDL:=Fx dl
    have HZL:=Fx hzl1
    obtain⟨sb,hsb⟩:∃ sb,(t.x == [43])=sb:=⟨_,rfl⟩
    have HSB:=Fx hsb
    have htk:=fun W hW=>cN (B:=n+3) (Ts:=[213]) (HRX.out.keep (w':=W) hW) 1 [] _ (eE _) hB (by simp)
    clear hix o0 of0 n0 hol1 hnl1 HI1 HOB1 HNB1 HOWN1 HALL1 HZ1 HR1 HM1 HMS HRX HWX
    cases h1:tk 1 [] c1 with
    | bad a e =>
      have hq:=HQ.out
      rw[nX H0.out h1] at hq
      subst hq
      rw[h1] at htk
      have HTK:=Fx htk
      clear h1 htk
      go_region_dies
      all_goals
       refine (HTK.out _ (by first | exact ay Fy | exact ae (ay Fy) _)).mono ?_
       rintro e w5 ⟨rfl,hm5⟩
       have HM5:=Fx (HMX.out.trans (MT.trans (by first | exact MT.ofBelow (ay Fy) | exact MT.ofBelow (ae (ay Fy) _)) (hm5.wide (by simp))))
       clear hm5
       go_wp2_with fail
       exact⟨rfl,rfl,HM5.out⟩
    | ok u c2 =>
      rw[h1] at htk
      have HTK:=Fx htk
      have H1:=Fx h1
      have hl2:=cA _ _ _ _ _ h1
      clear h1 htk
      go_cut [5] from 18 to 24 (fun s5 wy=>∃ y,s5=.pointer (some ⟨y,0,none⟩)/\Hid (af wy y 68 #[.bool sb,.string ⟨u.x.toArray⟩,.slice none 0 0])/\Hid (Rs wy r c2 vt)/\Hid (MT (n+3) [213] wx wy)/\wx.heap.size<=y)
      case first =>
       go_region_law (first
        | (go_simp;go_at_call 57;refine (HTK.out _ (ay (ae Fy (.cells #[.bool false,.string ⟨#[]⟩,.slice none 0 0] 68)))).mono ?_;rintro e w5 ⟨v5,rfl,⟨rfl,hr5⟩,hm5⟩;have m5:MT (n+3) [213] wx w5:=MT.trans (MT.ofBelow (ay (ae Fy (.cells #[.bool false,.string ⟨#[]⟩,.slice none 0 0] 68)))) hm5;have yb:=(af.new wx 68 #[.bool false,.string ⟨#[]⟩,.slice none 0 0]).drew.mt hm5 (by decide);have y0:=yb.cell 0;have y1:=yb.cell 1;have y2:=yb.cell 2;have g0:=yb.frozen 0;have g1:=yb.frozen 1;have g2:=yb.frozen 2;have yl:=yb.lt;have ta5:=HTA.out.mt m5 (by decide);have d15:=ta5.cell 1;have dl5:=ta5.lt;simp only[FF] at y0 y1 y2 d15;have HYB:=Fx yb;have HR5:=Fx hr5;have HM5:=Fx m5;unfold ak.v;clear yb ta5 hr5 hm5 m5)
        | (go_simp;go_at_call 57;refine (HTK.out _ (ay Fy)).mono ?_;rintro e w5 ⟨v5,rfl,⟨rfl,hr5⟩,hm5⟩;have m5:MT (n+3) [213] wx w5:=MT.trans (MT.ofBelow (ay Fy)) hm5;have ta5:=HTA.out.mt m5 (by decide);have d15:=ta5.cell 1;have dl5:=ta5.lt;simp only[FF] at d15;have HR5:=Fx hr5;have HM5:=Fx m5;unfold ak.v;clear ta5 hr5 hm5 m5))
       all_goals
        go_wp2_with fail
        go_meet
        first
         | (have hs3:=mT (a:=.bool sb) (b:=.string ⟨u.x.toArray⟩) (c:=.slice none 0 0) HYB.out
            exact⟨_,rfl,Fx hs3.1,Fx (HR5.out.mt hs3.2.1 (by decide) (by decide)),Fx (HM5.out.own (((aq.refl (fun k=>k=wx.heap.size) w5).setCell (p:=⟨wx.heap.size,0,none⟩) (fun _=>rfl) _ |>.setCell (p:=⟨wx.heap.size,1,none⟩) (fun _=>rfl) _).setCell (p:=⟨wx.heap.size,2,none⟩) (fun _=>rfl) _) FA),FA⟩)
         | exact⟨_,rfl,Fx (af.new _ _ _),Fx (HR5.out.keep (ae Fy _)),Fx (HM5.out.alloc _),HM5.out.size⟩
      case rest =>
       obtain⟨y,rfl,HY,HRY,HMY,hy⟩:=hcut
       have hiy:dD wc b r:=af.mt HIX.out HMY.out (by decide)
       have x0y:=af.cell hiy 0
       have xly:=af.lt hiy
       simp only[List.getElem?_toArray,List.getElem?_cons_zero] at x0y
       have hwy1:=HMY.out.size
       have hvs:=Bk (B:=n+3) hiy HRY.out hB (by omega)
       have HIY:=Fx hiy
       have HOBY:=Fx (HOBX.out.mt HMY.out (by decide))
       have HNY:=Fx (HNX.out.mt HMY.out (by decide))
       have HOY:=Fx (HMY.out.ownsRow HOX.out (by decide))
       have HAY:=Fx (HAX.out.mono fun q a hh=>hh.mt HMY.out (by decide))
       have HZY:=Fx (HZX.out.mt HMY.out (by decide))
       have HMW:=Fx (HMX.out.trans (HMY.out.wide (by simp)))
       have hyl0:=HY.out.lt
       clear hiy x0 xl d1 dl HIX HOBX HNX HOX HAX HZX HMX HTA HRY HMY HTK
       cases h2:aJ iH c2 with
       | bad a e =>
         have hq:=HQ.out
         rw[mX H0.out H1.out h2] at hq
         subst hq
         rw[h2] at hvs
         have HVS:=Fx hvs
         clear h2 hvs
         go_wp2_with fail
         refine HVS.out.mono ?_
         rintro e w7 ⟨rfl,hm7⟩
         have HM7:=Fx (HMW.out.trans (hm7.wide (by simp)))
         clear hm7
         go_wp2_with fail
         exact⟨rfl,rfl,HM7.out⟩
       | ok l c3 =>
         have hq:=HQ.out
         rw[qU H0.out H1.out h2] at hq
         rw[h2] at hvs
         have HQ2:=Fx hq
         have HVS:=Fx hvs
         clear h2 hvs hq
         go_wp2_with fail
         refine HVS.out.mono ?_
         rintro e w7 ⟨v7,rfl,⟨hrow7,hi7,hr7⟩,hm7⟩
         obtain⟨la,lc,rfl⟩:=aB hrow7
         have yb7:=HY.out.mt hm7 (by decide)
         have y2:=yb7.cell 2
         have g2:=yb7.frozen 2
         have yl:=yb7.lt
         have hs7:=hm7.size
         have hny:n≠y:=by omega
         have hny':y≠n:=by omega
         have nb7:=HNY.out.mt hm7 (by decide)
         have n0:=nb7.cell 0
         have nl:=nb7.lt
         simp only[FF] at y2 n0
         have yb8:=yb7.set_ 2 (.slice la l.length lc)
         simp only[Array.setIfInBounds] at yb8
         have m8:MT 0 [68] w7 (w7.setCell ⟨y,2,none⟩ (.slice la l.length lc)):=MT.setCell (MT.refl w7) yb7 (by simp) (Fz) _
         have hmo:aq (fun k=>k=y) w7 (w7.setCell ⟨y,2,none⟩ (.slice la l.length lc)):=(aq.refl (fun k=>k=y) w7).setCell (p:=⟨y,2,none⟩) (fun _=>rfl) _
         have M8:=Fx (show MT (n+3) [213,3] w (w7.setCell ⟨y,2,none⟩ (.slice la l.length lc)) from (HMW.out.trans (hm7.wide (by simp))).own hmo (by have:=HMX1.out;omega))
         have hyx:w.heap.size<y:=by have:=HDL.out;have:=HZL.out;omega
         have ho8:=hmo.ownsRow (hm7.ownsRow HOY.out (by decide)) (fun k hk=>by have:=HLT.out k hk;omega)
         have HO8:=Fx ho8
         have HY8:Hid (af (w7.setCell ⟨y,2,none⟩ (.slice la l.length lc)) y 68 #[.bool sb,.string ⟨u.x.toArray⟩,.slice la l.length lc]):=Fx (by simpa using yb8)
         have y0:=yb7.cell 0
         have y1:=yb7.cell 1
         simp only[FF] at y0 y1
         have HI8:=Fx (show dD _ b r from af.mt hi7 m8 (by decide))
         have HR8:=Fx (hr7.mt m8 (by decide) (by decide))
         have HOB8:=Fx ((HOBY.out.mt hm7 (by decide)).mt m8 (by decide))
         have HN8:=Fx (nb7.mt m8 (by decide))
         have HA8:=Fx (HAY.out.mono fun q a hh=>(hh.mt hm7 (by decide)).mt m8 (by decide))
         have HZ8:=Fx ((HZY.out.mt hm7 (by decide)).far (p:=⟨y,2,none⟩) (show w.heap.size≠y by omega) (.slice la l.length lc))
         have HRW8:=Fx (m8.ownsRow (World.ownsRow.low hrow7 (show B<=wc.heap.size by omega)) (by decide))
         have hsz7:w.heap.size<=w7.heap.size:=by omega
         have hly:l.length<=l.length:=Nat.le_refl _
         clear hrow7 hi7 hr7 hm7 yb7 nb7 yb8 m8 hmo ho8 HY HIY HOBY HNY HOY HAY HZY HVS
         generalize hly2:l.length=ln at *
         have HLN:=Fx hly2
         clear hly2 hly
         go_wp2_with (at_builtin;refine wpList_append_lies _ rfl (.tmp 29) (.tmp 31) 53 rfl B 68 ic (.agg #[.bool false,.string ⟨#[]⟩,.slice none 0 0]) 3 48 underlying53 hic hc0 hc1 hc2 rfl (by decide) (.slice ba L bc) L _ rfl (HO8.out.alloc _) ⟨_,0,none⟩ 1 1 [.bool sb,.string ⟨u.x.toArray⟩,.slice la ln lc] rfl rfl (World.news_of_block (mF _ _ _ _ _)) (by simp [Value.oneCell']) (by decide) ?c3 ?c5 ?c4 _ rfl ?_)
         case c3=>unfold maxLen;omega
         case c5=>omega
         case c4=>simp;omega
         intro g cap1 w9 hown9 hgrow9 hat9 hlt9
         have hyo:(Value.slice ba L bc).ownBlock≠some y:=fun e=>by have:=HLT.out _ e;omega
         have hzo:(Value.slice ba L bc).ownBlock≠some w.heap.size:=fun e=>by have:=HLT.out _ e;omega
         have m9:MT 0 [68] _ w9:=((MT.refl _).alloc _).grown hgrow9 (HO8.out.alloc _) (by simp) (Fz)
         have yb9:=(HY8.out.alloc _).grown hgrow9 (fun e=>hyo e.symm)
         have zb9:=(HZ8.out.alloc _).grown hgrow9 (fun e=>hzo e.symm)
         have nb9:=HN8.out.mt m9 (by decide)
         have n0:=nb9.cell 0
         have nf:=nb9.frozen 0
         have nl:=nb9.lt
         have y0:=yb9.cell 0
         have y1:=yb9.cell 1
         have y2:=yb9.cell 2
         have yl:=yb9.lt
         simp only[FF] at n0 y0 y1 y2
         have m10:MT 0 [53] w9 (w9.setCell ⟨n,0,none⟩ (.slice (some ⟨g,0,none⟩) (L+1) cap1)):=MT.setCell (MT.refl w9) nb9 (by simp) (Fz) _
         have zb10:=zb9.far (p:=⟨n,0,none⟩) (show w.heap.size≠n by omega) (.slice (some ⟨g,0,none⟩) (L+1) cap1)
         have nb10:=nb9.set_ 0 (.slice (some ⟨g,0,none⟩) (L+1) cap1)
         simp only[Array.setIfInBounds] at nb10
         have HN10:Hid (af _ n 53 #[.slice (some ⟨g,0,none⟩) (L+1) cap1]):=Fx (by simpa using nb10)
         have HZ10:=Fx zb10
         have HO10:=Fx (m10.ownsRow hown9 (by decide))
         have mm:MT 0 [68,53] _ (w9.setCell ⟨n,0,none⟩ (.slice (some ⟨g,0,none⟩) (L+1) cap1)):=(m9.wide (by simp)).trans (m10.wide (by simp))
         have HMF:Hid (aq (F1 n w (.slice ba L bc)) w (w9.setCell ⟨n,0,none⟩ (.slice (some ⟨g,0,none⟩) (L+1) cap1))):=Fx ((((aq.mono (G:=F1 n w (.slice ba L bc)) M8.out (fun i _ h=>.inr (.inl h))).alloc _).grown hgrow9 (fun k hk _=>.inr (.inr hk))).setCell (p:=⟨n,0,none⟩) (fun _=>.inl rfl) _)
         have hgz:g≠w.heap.size/\((Value.slice ba L bc).ownBlock=some g∨w.heap.size<=g):=by
          rcases hat9 with h9 | h9
          ·exact⟨fun e=>hzo (e ▸ h9),.inl h9⟩
          ·have:g=w7.heap.size+1:=by first | exact h9 | (rw[h9])
           exact⟨by omega,.inr (by omega)⟩
         have HGZ:=Fx hgz
         have HMM:=Fx mm
         clear hown9 hgrow9 hat9 hlt9 hyo hzo m9 yb9 zb9 nb9 m10 zb10 nb10 mm hgz
         go_wp2_with (refine ar rfl 68 _ _ rfl w.heap.size 68 _ _ rfl rfl HZ10.out (by kernel_rfl) rfl (by simp [Value.oneCell']) ?_)
         intro w11 hb11 hm11 hz11
         have r0:=hb11.cell 0
         have r1:=hb11.cell 1
         have r2:=hb11.cell 2
         simp only[FF] at r0 r1 r2
         have m11:MT 0 [68] _ w11:=MT.ofMod hm11 HZ10.out (by simp) (Fz)
         have mall:=HMM.out.trans (m11.wide (Ts':=[68,53]) (by simp))
         have hsd:sb=decide (t.x=[43]):=by
          rw[<-HSB.out,Bool.eq_iff_iff]
          simp
         have hfin:DK B n b r ov vt w (.slice ba L bc) xs (.ok (jn t u l) c3) (.returned (.agg #[.bool sb,.string ⟨u.x.toArray⟩,.slice la ln lc])) w11:=by
          refine⟨.slice (some ⟨g,0,none⟩) (L+1) cap1,.slice la ln lc,by rw[hsd];rfl,rfl,⟨af.mt HI8.out mall (by decide),?_,HN10.out.mod hm11 (fun e=>by omega),?_⟩,HR8.out.mt mall (by decide) (by decide),HMF.out.trans hm11 (fun i hi e=>by omega),?_⟩
          ·rw[show dg (xs++[jn t u l])=dg (xs++[jn t t []]) from vS rfl]
           exact HOB8.out.mt mall (by decide)
          ·rw[List.map_append]
           refine xZ (x:=(jn t u l).1) (rv:=.slice la ln lc) (by rw[List.length_map,HL.out]) ?_ (HA8.out.mono fun q a hh=>hh.mt mall (by decide)) ?_
           ·have:=hm11.ownsRow HO10.out (fun k hk=>by simp [Value.ownBlock] at hk;subst hk;exact HGZ.out.1)
            rw[hsd] at this
            exact this
           ·have:=mall.ownsRow HRW8.out (by decide)
            rw[<-HLN.out] at this ⊢
            exact this
          ·intro k hk
           simp [Value.ownBlock] at hk
           subst hk
           exact HGZ.out.2
         have HFIN:=Fx hfin
         have hq:=HQ2.out
         subst hq
         clear hb11 hm11 hz11 m11 mall hfin
         go_wp2_with fail
         exact bodyPost_ret (v:=.agg #[.bool sb,.string ⟨u.x.toArray⟩,.slice la ln lc]) (by simp [results,results143,go_sem, *]) rfl HFIN.out
def DM (x:List Value):Value:=x.getD 1 undef
def vX (rows:List (List Value)):Prop:=rows.Pairwise fun x y=>∀ k,(DM x).ownBlock=some k->(DM y).ownBlock≠some k
theorem vX.snoc {B b0:Nat} {w:World} {rows:List (List Value)} {al:List eb} {x:List Value} (h:vX rows) (ha:aH (mg B w) rows al) (hx:∀ k,(DM x).ownBlock=some k->w.heap.size<=k):vX (rows++[x]):=by
 refine List.pairwise_append.2 ⟨h,List.pairwise_singleton _ _,fun a hm b hb k hk=>?_⟩
 rw[List.mem_singleton] at hb
 subst hb
 intro hk2
 have h1:=hx k hk2
 obtain⟨at',_,tv,rfl,ho⟩:=bm ha a hm
 have h2:=(World.ownsRow.lt ho k hk).2
 omega
def ED (w:World) (name:ByteArray) (hd:List (List UInt8)) (al:List eb) (e:Ending) (w':World):Prop :=
 ∃ hv av rows,e=.returned (.agg #[.string name,hv,av])/\aV w.heap.size w' hv hd/\w'.ownsRow w.heap.size 105 2 av al.length rows.flatten/\aH (mg w.heap.size w') rows al/\vX rows/\Below w.heap.size w w'
theorem xF (w:World) (name:ByteArray) (hv av:Value) (hd:List (List UInt8)) (al:List eb) (h1:aI w hv hd) (h2:aK w av al) (hn:al.length<=3518437208780) :
 Calls prog 30 #[.agg #[.string name,hv,av]] w (ED w name hd al):=by
 obtain⟨ia,hia,ha0,ha1,ha2⟩:=info_parts Tryz.infoAtm
 obtain⟨ad,cap,rfl,hnc,hcm⟩:=h2.form
 obtain⟨hh,hc,rfl,hhc,hhm⟩:=h1.form
 unfold maxLen at hcm
 have HR:=Fx h2
 have HS:=Fx h1
 generalize hN:al.length=n at *
 have HN:=Fx hN
 have bx:=(af.new w 50 #[.string name,.slice hh hd.length hc,.slice ad n cap]).alloc (.cells #[.string ⟨#[]⟩,.slice none 0 0,.slice none 0 0] 50)
 have br:=cM w (.cells #[.string name,.slice hh hd.length hc,.slice ad n cap] 50) 50 #[.string ⟨#[]⟩,.slice none 0 0,.slice none 0 0]
 have b0:Below w.heap.size w ((w.alloc (.cells #[.string name,.slice hh hd.length hc,.slice ad n cap] 50)).alloc (.cells #[.string ⟨#[]⟩,.slice none 0 0,.slice none 0 0] 50)):=ae (ae Fy _) _
 have HTX:=Fx (fun W (hb:Below w.heap.size w W)=>vi W _ hd (h1.keep hb))
 have BX:=Fx bx
 have BR:=Fx br
 have B0:=Fx b0
 clear h1 h2 hN bx br b0
 go_enter func30,ntmps30
 go_wp2_with fail
 have x0:=BX.out.cell 0
 have x1:=BX.out.cell 1
 have x2:=BX.out.cell 2
 simp only[FF] at x0 x1 x2
 have hxl:=BX.out.lt
 have hzs:(((w.alloc (.cells #[.string name,.slice hh hd.length hc,.slice ad n cap] 50)).alloc (.cells #[.string ⟨#[]⟩,.slice none 0 0,.slice none 0 0] 50)).drew).heap.size=w.heap.size+1+1:=by simp
 have zz:=af.new (((w.alloc (.cells #[.string name,.slice hh hd.length hc,.slice ad n cap] 50)).alloc (.cells #[.string ⟨#[]⟩,.slice none 0 0,.slice none 0 0] 50)).drew) 50 #[.string ⟨#[]⟩,.slice none 0 0,.slice none 0 0]
 rw[hzs] at zz
 have Z:=Fx zz
 clear zz hzs
 have hz2:((w.alloc (.cells #[.string name,.slice hh hd.length hc,.slice ad n cap] 50)).alloc (.cells #[.string ⟨#[]⟩,.slice none 0 0,.slice none 0 0] 50)).heap.size=w.heap.size+1+1:=by simp
 go_cut [3] from 5 to 10 (fun s3 wx=>∃ (y:Nat) (va:Option Addr) (vc:Nat),s3=.pointer (some ⟨y,0,none⟩)/\Hid (aV w.heap.size wx (.slice va hd.length vc) hd)/\Hid (af wx y 50 #[.string name,.slice va hd.length vc,.slice none 0 0])/\Hid (af wx w.heap.size 50 #[.string name,.slice hh hd.length hc,.slice ad n cap])/\Hid (af wx (w.heap.size+1) 50 #[.string ⟨#[]⟩,.slice none 0 0,.slice none 0 0])/\Hid (Below w.heap.size w wx)/\w.heap.size+2<=y)
 case first =>
  go_region_law (first
   | (go_simp;go_at_call 17;refine (HTX.out _ (ae (ay B0.out) (.cells #[.string ⟨#[]⟩,.slice none 0 0,.slice none 0 0] 50))).mono ?_;rintro e w1 ⟨v1,rfl,hown1,hb1⟩;obtain⟨va,vc,rfl⟩:=aB (show World.ownsRow _ _ _ _ _ _ _ from hown1);have zb:=Z.out.below hb1 (by simp);have z0:=zb.cell 0;have z1:=zb.cell 1;have z2:=zb.cell 2;have f0:=zb.frozen 0;have f1:=zb.frozen 1;have f2:=zb.frozen 2;have zl:=zb.lt;have xb:=(BX.out.drew.alloc (.cells #[.string ⟨#[]⟩,.slice none 0 0,.slice none 0 0] 50)).below hb1 (by simp<;>omega);have rb:=(BR.out.drew.alloc (.cells #[.string ⟨#[]⟩,.slice none 0 0,.slice none 0 0] 50)).below hb1 (by simp<;>omega);have y0:=xb.cell 0;have yl:=xb.lt;have bw:=(ae (ay B0.out) (.cells #[.string ⟨#[]⟩,.slice none 0 0,.slice none 0 0] 50)).trans (hb1.mono (by simp<;>omega));have hlow:=World.ownsRow.low (show World.ownsRow _ _ _ _ _ _ _ from hown1) (show w.heap.size<=_ by simp<;>omega);simp only[FF] at z0 z1 z2 y0;have HZB:=Fx zb;have HXB:=Fx xb;have HRB:=Fx rb;have HBW:=Fx bw;have HLW:=Fx hlow;clear zb xb rb bw hlow hown1 hb1)
   | (go_simp;go_at_call 17;refine (HTX.out _ (ay B0.out)).mono ?_;rintro e w1 ⟨v1,rfl,hown1,hb1⟩;obtain⟨va,vc,rfl⟩:=aB (show World.ownsRow _ _ _ _ _ _ _ from hown1);have xb:=BX.out.drew.below hb1 (by simp<;>omega);have rb:=BR.out.drew.below hb1 (by simp<;>omega);have y0:=xb.cell 0;have yl:=xb.lt;simp only[List.getElem?_toArray,List.getElem?_cons_zero] at y0;have bw:=(ay B0.out).trans (hb1.mono (by simp<;>omega));have hlow:=World.ownsRow.low (show World.ownsRow _ _ _ _ _ _ _ from hown1) (show w.heap.size<=_ by simp<;>omega);have hgz:=hb1.size;simp at hgz;have HXB:=Fx xb;have HRB:=Fx rb;have HBW:=Fx bw;have HLW:=Fx hlow;clear xb rb bw hlow hown1 hb1))
  all_goals
   go_wp2_with fail
   go_meet
   first
    | (have hs3:=mT (a:=.string name) (b:=.slice va hd.length vc) (c:=.slice none 0 0) HZB.out
       exact⟨_,_,_,rfl,Fx (hs3.2.1.ownsRow HLW.out (by decide)),Fx hs3.1,Fx (hs3.2.2.1 _ _ _ (by omega) HXB.out),Fx (hs3.2.2.1 _ _ _ (by omega) HRB.out),Fx (hs3.2.2.2 _ _ (by omega) HBW.out),by omega⟩)
    | exact⟨_,_,_,rfl,Fx ((aq.ofBelow (F:=fun _=>False) (ae Fy _)).ownsRow HLW.out (fun _ _ f=>f)),Fx (af.new _ _ _),Fx (HXB.out.alloc _),Fx (HRB.out.alloc _),Fx (ae HBW.out _),by omega⟩
 case rest =>
  obtain⟨y,va,vc,rfl,HOS,HY,HX,HRB,HB,hy⟩:=hcut
  go_wp2_with fail
  go_loopw [4] (fun i wr=>∃ (k:Nat) (jv:Value) (rows:List (List Value)),k<=n/\i=.int .i64 k/\Hid (wr.ownsRow w.heap.size 105 2 jv k rows.flatten)/\Hid (aH (mg w.heap.size wr) rows (al.take k)/\vX rows)/\Hid (aV w.heap.size wr (.slice va hd.length vc) hd)/\Hid (af wr y 50 #[.string name,.slice va hd.length vc,jv])/\Hid (af wr w.heap.size 50 #[.string name,.slice hh hd.length hc,.slice ad n cap])/\Hid (af wr (w.heap.size+1) 50 #[.string ⟨#[]⟩,.slice none 0 0,.slice none 0 0])/\Hid (Below w.heap.size w wr)) (fun i _=>n - (intOf i).toNat)
  case atStart=>exact⟨0,.slice none 0 0,[],Fz,rfl,Fx (World.ownsRow_nil _ _ _ _),Fx ⟨trivial,List.Pairwise.nil⟩,HOS,HY,HX,HRB,HB⟩
  case round =>
   obtain⟨k,jv,rows,hk,rfl,HJ,HA,HOS,HY,HX,HRB,HB⟩:=hrel
   obtain⟨ja,jc,rfl⟩:=aB HJ.out
   have x2:=HX.out.cell 2
   have y2:=HY.out.cell 2
   simp only[FF] at x2 y2
   have hxl:=HX.out.lt
   have hyl:=HY.out.lt
   by_cases hlt:k<n
   ·obtain⟨a,ha⟩:∃ a,al[k]? = some a:=⟨al[k]'(by rw[HN.out];exact hlt),FD (by rw[HN.out];exact hlt)⟩
    obtain⟨b,off,cap',tv,hv',_,_,hbl,g0,g1,hrow,hal⟩:=(HR.out.keep HB.out).get ha
    rw[HN.out] at hv'
    simp only[Value.slice.injEq,true_and] at hv'
    obtain⟨rfl,rfl⟩:=hv'
    obtain⟨ta,tc,rfl,_,_⟩:=hrow.form
    have hd1:decide ((k:Int)<0)=false:=by simp
    have hd2:decide ((n:Int)<=(k:Int))=false:=by simp;omega
    simp only[List.length_map] at g1 hrow
    have hca:=qk wr.drew ⟨a.rel.toArray⟩ (.slice ta a.ts.length tc) a.ts (hrow.keep (ay Fy)) hal
    have HCA:=Fx hca
    have HAT:=Fx ha
    clear hca hrow ha
    go_wp2_with fail
    go_region_law (first
     | (go_simp;go_at_call 78;refine HCA.out.mono ?_;rintro e w6 ⟨tv6,rfl,hown6,hb6⟩;obtain⟨va6,vc6,rfl⟩:=aB hown6;have m6:MT 0 [] wr w6:=(MT.refl wr).drew.trans (MT.ofBelow hb6);have yb:=HY.out.mt m6 (by simp);have y26:=yb.cell 2;have yl6:=yb.lt;have xb:=HX.out.mt m6 (by simp);have x26:=xb.cell 2;have xl6:=xb.lt;simp only[FF] at y26 x26;have HJ6:=Fx (m6.ownsRow HJ.out (by simp));have HM6:=Fx m6;have HY6:=Fx yb;have HX6:=Fx xb;have HO6:=Fx hown6;have HB6:=Fx ((ay HB.out).trans (hb6.mono (ay HB.out).size));clear m6 yb xb hown6 hb6)
     | (refine step_append_lies _ rfl (.tmp 19) (.tmp 26) 48 rfl w.heap.size 105 ia (.agg #[.string ⟨#[]⟩,.slice none 0 0]) 2 40 underlying48 hia ha0 ha1 ha2 rfl (by decide) (.slice ja k jc) k _ rfl (HJ6.out.alloc _) ⟨_,0,none⟩ 1 1 [.string ⟨a.rel.toArray⟩,.slice va6 a.ts.length vc6] rfl rfl (World.news_of_block (af.new _ _ _)) (by simp [Value.oneCell']) (by decide) (by unfold maxLen;omega) (by omega) (by simp;have:=HB6.out.size;omega) _ rfl ?_;intro g3 cap3 wi hown3 hgrow3 hat3 hlt3;have yi:=(HY6.out.alloc (.cells #[.string ⟨a.rel.toArray⟩,.slice va6 a.ts.length vc6] 105)).grown hgrow3 (fun e=>aE HJ6.out HY6.out (by decide) (Eq.symm e));have z2:=yi.cell 2;have zf:=yi.frozen 2;have zl:=yi.lt;simp only[FF] at z2;have HYI:=Fx yi;clear yi))
    all_goals
     have mi:MT 0 [105] w6 wi:=((MT.refl w6).alloc _).grown hgrow3 (HJ6.out.alloc _) (by simp) (Fz)
     have ms:MT 0 [50] wi (wi.setCell ⟨y,2,none⟩ (.slice (some ⟨g3,0,none⟩) (k+1) cap3)):=MT.setCell (MT.refl wi) HYI.out (by simp) (Fz) _
     have hj2:=ms.ownsRow hown3 (by decide)
     have hno:(wi.setCell ⟨y,2,none⟩ (.slice (some ⟨g3,0,none⟩) (k+1) cap3)).ownsRow w.heap.size 113 4 (.slice va6 a.ts.length vc6) a.ts.length (a.ts.flatMap dd.cells):=by
      rw[<-iq]
      exact ms.ownsRow (mi.ownsRow (World.ownsRow.low HO6.out HB.out.size) (by decide)) (by decide)
     have ha2:aH (mg w.heap.size (wi.setCell ⟨y,2,none⟩ (.slice (some ⟨g3,0,none⟩) (k+1) cap3))) (rows++[[.string ⟨a.rel.toArray⟩,.slice va6 a.ts.length vc6]]) (al.take (k+1)):=by
      rw[List.take_add_one,HAT.out]
      exact aH.snoc ⟨_,rfl,hno⟩ (HA.out.1.mono fun b x h=>((h.mt HM6.out (by simp)).mt mi (by decide)).mt ms (by decide))
     have hap:vX (rows++[[.string ⟨a.rel.toArray⟩,.slice va6 a.ts.length vc6]]):=vX.snoc (b0:=0) HA.out.2 HA.out.1 (fun q hq=>(World.ownsRow.lt HO6.out q hq).1)
     have HAP:=Fx hap
     clear hap
     have hos:=ms.ownsRow (mi.ownsRow (HM6.out.ownsRow HOS.out (by simp)) (by decide)) (by decide)
     have hy2:=HYI.out.set_ 2 (.slice (some ⟨g3,0,none⟩) (k+1) cap3)
     have hx2:=((HX6.out.alloc (.cells #[.string ⟨a.rel.toArray⟩,.slice va6 a.ts.length vc6] 105)).grown hgrow3 (fun e=>aE HJ6.out HX6.out (by decide) (Eq.symm e))).far (p:=⟨y,2,none⟩) (show w.heap.size≠y by omega) (.slice (some ⟨g3,0,none⟩) (k+1) cap3)
     have hrb:=HRB.out.mt HM6.out (by simp)
     have hr2:=((hrb.alloc (.cells #[.string ⟨a.rel.toArray⟩,.slice va6 a.ts.length vc6] 105)).grown hgrow3 (fun e=>aE HJ6.out hrb (by decide) (Eq.symm e))).far (p:=⟨y,2,none⟩) (show w.heap.size+1≠y by omega) (.slice (some ⟨g3,0,none⟩) (k+1) cap3)
     have hb2:=((ae HB6.out (.cells #[.string ⟨a.rel.toArray⟩,.slice va6 a.ts.length vc6] 105)).grown hgrow3 (by simp;have:=HB6.out.size;omega) (fun q hq=>(HJ6.out.lt q hq).1)).setCell (p:=⟨y,2,none⟩) (show w.heap.size<=y by omega) (.slice (some ⟨g3,0,none⟩) (k+1) cap3)
     have HJ2:=Fx hj2
     have HA2:=Fx ha2
     have HOS2:=Fx hos
     have HY2:=Fx hy2
     have HX2:=Fx hx2
     have HR2:=Fx hr2
     have HB2:=Fx hb2
     clear mi ms hj2 hno ha2 hos hy2 hx2 hrb hr2 hb2 hown3 hgrow3 hat3 hlt3 z2 zf zl
     go_wp2_with fail
     go_roundw
     case rel=>exact⟨k+1,_,_,by omega,by go_num,Fx (by rw[List.flatten_append];simpa using HJ2.out),Fx ⟨HA2.out,HAP.out⟩,HOS2,Fx (by simpa using HY2.out),HX2,HR2,HB2⟩
     case measure=>simp [intOf];omega
   ·obtain rfl:k=n:=by omega
    have y0:=HY.out.cell 0
    have y1:=HY.out.cell 1
    simp only[FF] at y0 y1
    have ha:=HA.out.1
    rw[List.take_of_length_le (by rw[HN.out];exact FA)] at ha
    have HAA:=Fx ha
    clear ha
    go_wp2_with (refine ar rfl 50 _ _ rfl (w.heap.size+1) 50 _ _ rfl rfl HRB.out (by kernel_rfl) rfl (by simp [Value.oneCell']) ?_)
    intro w9 hb9 hm9 hz9
    have r0:=hb9.cell 0
    have r1:=hb9.cell 1
    have r2:=hb9.cell 2
    simp only[FF] at r0 r1 r2
    have m9:MT 0 [50] wr w9:=MT.ofMod hm9 HRB.out (by simp) (Fz)
    have HB9:=Fx (aq.own HB.out hm9 (by omega))
    have HS9:Hid (aV w.heap.size w9 (.slice va hd.length vc) hd):=Fx (m9.ownsRow HOS.out (by decide))
    have HJ9:=Fx (m9.ownsRow HJ.out (by decide))
    have HA9:=Fx (HAA.out.mono fun b x h=>h.mt m9 (by decide))
    have HLN:=Fx HS.out.len
    clear hb9 hm9 hz9 m9
    go_wp2_with fail
    refine bodyPost_ret (v:=.agg #[.string name,.slice va hd.length vc,.slice ja k jc]) (by simp [results,results30,go_sem, *]) rfl ⟨_,_,rows,rfl,HS9.out,by rw[HN.out];exact HJ9.out,HA9.out,HA.out.2,HB9.out⟩
