/- reader.Some, reader.List at osier/query.placed of string, walked (printed by lst.py). -/
import Derived.Test.YtgopfpjinohncaaGreatDoorGaF
set_option maxHeartbeats 16000000
set_option maxRecDepth 100000
set_option linter.unusedVariables false
namespace Go.Proofs.YtgopfpjinohncaaGreatDoor
open Go.Proofs.Tryz
open Go.RowKit
theorem Tryz.info_Nm:(prog.info? 221).map (fun i=>(i.zero,i.size,i.bytes))=some (some (.agg #[.string ⟨#[]⟩,.int .i64 0]),2,24):=by kernel_rfl
theorem CE {α:Type} (P:List ak->PR α) (El:World->List Value->α->Prop) (J:World->List α->Prop) (B:Nat) (Ts:List TypeId) (r:Nat) (vt:Value) (lb:Array Value)
 (hP:dp P) (hB:B<=r) (hR:213∈Ts) (hT:221 ∉ Ts)
 (hJ:∀ (w w':World) (xs:List α),MT B [221,213] w w'->J w xs->J w' xs)
 (hE:∀ (w w':World) (cs:List Value) (x:α),MT B (221::Ts) w w'->El w cs x->El w' cs x)
 (hone:∀ (w:World) (xs:List α) (c:List ak),B<=w.heap.size->J w xs->Rs w r c vt->Calls prog 132 lb w (aX (fun x c' v w'=>lx 2 El J r vt xs x c' v w') B Ts w (P c)))
 (w:World) (c:List ak) (hc:Rs w r c vt) (hj:J w []) (hw:B<=w.heap.size) :
 Calls prog 198 #[.pointer (some ⟨r,0,none⟩),.func (.func 132) #[] lb] w (aX (fun xs c' v w'=>jW w.heap.size 221 2 El J r vt xs c' v w') B Ts w (aQ P c)):=by
 obtain⟨i0,hi0,hz0,hz1,hz2⟩:=info_parts Tryz.info_Nm
 have hlen:=hc.len
 have HONE:=Fx hone
 have HJ:=Fx hJ
 have HE:=Fx hE
 have hone0:=hone w [] c hw hj hc
 have hTR:221 ∉ [213]:=by decide
 clear hone hJ hE hj hc
 cases hp:P c with
 | bad a e =>
   rw[hp] at hone0
   rw[er hp]
   have HO:=Fx hone0
   clear hp hone0
   go_enter func198,ntmps198
   go_wp2_with fail
   refine HO.out.mono ?_
   rintro e' w1 ⟨rfl,hm⟩
   have HM:=Fx hm
   clear hm
   go_wp2_with fail
   exact⟨rfl,az HM.out⟩
 | ok x c1 =>
   rw[hp] at hone0
   rw[ek hp]
   have HO:=Fx hone0
   have hl1:=hP _ _ _ hp
   clear hp hone0
   have HRES:Hid (bz P [x] c1=bz P [x] c1):=Fx rfl
   generalize hres:bz P [x] c1=RES at HRES ⊢
   clear HRES
   have HRS:=Fx hres
   clear hres
   go_enter func198,ntmps198
   go_wp2_with fail
   refine HO.out.mono ?_
   rintro e' w1 ⟨v,rfl,⟨cs,rfl,⟨hl,h1,he⟩,hj1,hr1⟩,hm⟩
   obtain⟨e0,e1,rfl⟩:=mw hl
   have hsz1:=hm.size
   have hal:MT B [221,213] w1 (w1.alloc (.cells #[e0,e1] 221)):=(MT.refl w1).alloc _
   have HJ1:=Fx (HJ.out _ _ _ hal hj1)
   have HM1:=Fx (hm.alloc (.cells #[e0,e1] 221))
   have HE1:=Fx (show jE 2 El (w1.alloc (.cells #[e0,e1] 221)) [e0,e1] x from ⟨hl,h1,HE.out _ _ _ _ ((MT.refl w1).alloc _) he⟩)
   have HR1:=Fx (hr1.keep (ae Fy (.cells #[e0,e1] 221)))
   have HO1:=Fx (World.ownsRow_lit (base:=w.heap.size) (e:=221) (size:=2) w1 #[e0,e1] 1 hsz1 (by unfold maxLen;omega) rfl)
   clear hl h1 he hj1 hr1 hm hal HO
   go_wp2_with fail
   go_loopw [5] (fun v wr=>∃ (ys:List α) (css:List (List Value)) (cc:List ak) (ad:Option Addr) (cap:Nat),v=.slice ad ys.length cap/\Hid (wr.ownsRow w.heap.size 221 2 (.slice ad ys.length cap) ys.length css.flatten)/\Hid (aH (jE 2 El wr) css ys)/\Hid (J wr ys)/\Hid (Rs wr r cc vt)/\Hid (MT B Ts w wr)/\Hid (bz P ys cc=RES)/\ys.length+cc.length<=200000) (fun v _=>200000 - (match v with | .slice _ n _=>n | _=>0))
   case atStart=>exact⟨[x],[[e0,e1]],c1,some ⟨w1.heap.size,0,none⟩,1,rfl,HO1,Fx ⟨HE1.out,trivial⟩,HJ1,HR1,HM1,HRS,by simp;omega⟩
   case round =>
    obtain⟨ys,css,cc,ad,cap,rfl,OW,AL,JW,RW,MW,RE,hbd⟩:=hrel
    have HIS:=Fx (dh RW.out [44])
    cases him:cV [44] cc with
    | false =>
      have hre:=RE.out
      rw[cY ys him] at hre
      rw[him] at HIS
      subst hre
      clear him
      go_wp2_with fail
      refine HIS.out.mono ?_
      rintro e2 w2 ⟨rfl,hb2⟩
      have HB2:=Fx hb2
      clear hb2
      go_wp2_with fail
      go_ret
      refine⟨_,rfl,⟨css,(aq.ofBelow (F:=fun _=>False) HB2.out).ownsRow OW.out (fun _ _ f=>f),AL.out.mono (fun b a h=>⟨h.1,h.2.1,HE.out _ _ _ _ (MT.ofBelow HB2.out) h.2.2⟩),HJ.out _ _ _ (MT.ofBelow HB2.out) JW.out,RW.out.keep HB2.out⟩,MW.out.plusBelow HB2.out⟩
    | true =>
      obtain⟨t,htk⟩:=fw him
      have hne:1<=cc.length:=by
       cases cc with
       | nil=>simp [cV] at him
       | cons _ _=>simp
      have hdl:(cc.drop 1).length=cc.length - 1:=List.length_drop ..
      rw[him] at HIS
      have HIM:=Fx him
      have HTK:=Fx htk
      clear him htk
      go_wp2_with fail
      refine HIS.out.mono ?_
      rintro e2 w2 ⟨rfl,hb2⟩
      have HMK:=Fx (bf (B:=B) (Ts:=[213]) (RW.out.keep hb2) [44] hB (by simp))
      rw[HTK.out] at HMK
      have HB2:=Fx hb2
      clear hb2
      go_wp2_with fail
      refine HMK.out.mono ?_
      rintro e3 w3 ⟨v3,rfl,⟨rfl,hr3⟩,hm3⟩
      have m03:MT B [213] wr w3:=(MT.ofBelow HB2.out).trans hm3
      have hB3:B<=w3.heap.size:=by have:=MW.out.size;have:=m03.size;omega
      have hone3:=HONE.out w3 ys (cc.drop 1) hB3 (HJ.out _ _ _ (m03.wide (by simp)) JW.out) hr3
      have M03:=Fx m03
      have toTs:∀ t∈[213],t∈Ts:=fun t ht=>by simp at ht;subst ht;exact hR
      have TOTS:=Fx toTs
      clear hr3 hm3 m03 toTs
      unfold ak.v
      cases hp:P (cc.drop 1) with
      | bad a e =>
        rw[hp] at hone3
        have hre:=RE.out
        rw[ea ys HIM.out hp] at hre
        subst hre
        have HO3:=Fx hone3
        clear hp hone3
        go_wp2_with fail
        refine HO3.out.mono ?_
        rintro e4 w4 ⟨rfl,hm4⟩
        have HM4:=Fx hm4
        clear hm4
        go_wp2_with fail
        exact⟨rfl,az ((MW.out.trans (M03.out.wide TOTS.out)).trans HM4.out)⟩
      | ok x c4 =>
        rw[hp] at hone3
        have hre:=dQ hP ys HIM.out hp
        have hl4:=hP _ _ _ hp
        have hrq:=hre.1
        rw[RE.out] at hrq
        have HRE:=Fx hrq.symm
        have HO3:=Fx hone3
        clear hp hone3 hre hrq
        go_wp2_with fail
        refine HO3.out.mono ?_
        rintro e4 w4 ⟨v4,rfl,⟨cs4,rfl,⟨hl,h1,he⟩,hj4,hr4⟩,hm4⟩
        obtain⟨e0,e1,rfl⟩:=mw hl
        have m04:MT B Ts wr w4:=(M03.out.wide TOTS.out).trans hm4
        have HO4:=Fx (m04.ownsRow OW.out hT)
        have HW4:=Fx (MW.out.trans m04)
        have hsz4:=HW4.out.size
        have M04:=Fx m04
        have H1:=Fx h1
        have HEL:=Fx he
        have HJ4:=Fx hj4
        have HR4:=Fx hr4
        clear hl h1 he hj4 hr4 hm4 m04
        go_wp2_with (at_builtin;refine wpList_append_lies _ rfl (.tmp 13) (.tmp 16) 223 rfl w.heap.size 221 i0 (.agg #[.string ⟨#[]⟩,.int .i64 0]) 2 24 underlying223 hi0 hz0 hz1 hz2 rfl (by decide) (.slice ad ys.length cap) ys.length _ rfl (HO4.out.alloc _) ⟨_,0,none⟩ 1 1 [e0,e1] rfl rfl (World.news_of_block (af.new _ _ _)) H1.out (by decide) ?c3 ?c5 ?c4 _ rfl ?_)
        case c3=>unfold maxLen;omega
        case c5=>omega
        case c4=>simp;omega
        intro g cap1 w5 hown2 hgrow2 hat2 hlt2
        have m45:MT B [221] w4 w5:=((MT.refl w4).alloc _).grown hgrow2 (HO4.out.alloc _) (by simp) hw
        have mall:MT B (221::Ts) wr w5:=(M04.out.wide (fun _ h=>List.mem_cons_of_mem _ h)).trans (m45.wide (by simp))
        have HO5:=Fx hown2
        have MALL:=Fx mall
        have M45:=Fx m45
        have HG:=Fx hgrow2
        clear hown2 hgrow2 hat2 hlt2 m45 mall
        go_wp2_with fail
        go_roundw
        case rel =>
         refine⟨ys++[x],css++[[e0,e1]],c4,some ⟨g,0,none⟩,cap1,by simp,Fx ?_,Fx ?_,Fx (HJ.out _ _ _ (M45.out.wide (by simp)) HJ4.out),Fx (HR4.out.mt M45.out (by decide) (by decide)),Fx ?_,HRE,by simp;omega⟩
         ·have:=HO5.out
          simpa [List.flatten_append] using this
         ·exact (AL.out.mono (fun b a h=>⟨h.1,h.2.1,HE.out _ _ _ _ MALL.out h.2.2⟩)).snoc ⟨rfl,H1.out,HE.out _ _ _ _ (M45.out.wide (by simp)) HEL.out⟩
         ·exact aq.grown (HW4.out.alloc _) HG.out (fun k hk hlt=>by have:=(HO4.out.lt k hk).1;omega)
        case measure=>simp;omega
theorem Dm {α:Type} (P:List ak->PR α) (El:World->List Value->α->Prop) (J:World->List α->Prop) (B:Nat) (Ts:List TypeId) (r:Nat) (vt:Value) (lb:Array Value)
 (hP:dp P) (hB:B<=r) (hR:213∈Ts) (hT:221 ∉ Ts)
 (hJ:∀ (w w':World) (xs:List α),MT B [221,213] w w'->J w xs->J w' xs)
 (hE:∀ (w w':World) (cs:List Value) (x:α),MT B (221::Ts) w w'->El w cs x->El w' cs x)
 (hone:∀ (w:World) (xs:List α) (c:List ak),B<=w.heap.size->J w xs->Rs w r c vt->Calls prog 132 lb w (aX (fun x c' v w'=>lx 2 El J r vt xs x c' v w') B Ts w (P c)))
 (w:World) (c:List ak) (hc:Rs w r c vt) (hj:J w []) (hw:B<=w.heap.size) :
 Calls prog 131 #[.pointer (some ⟨r,0,none⟩),.func (.func 132) #[] lb] w (aX (fun xs c' v w'=>jW w.heap.size 221 2 El J r vt xs c' v w') B Ts w (aJ P c)):=by
 have HSOME:=Fx (fun W C=>CE P El J B Ts r vt lb hP hB hR hT hJ hE hone W C)
 have HJ:=Fx hJ
 have HE:=Fx hE
 have hmk:=bf (B:=B) (Ts:=[213]) hc [40] hB (by simp)
 have HJW:=Fx hj
 have toTs:∀ t∈[213],t∈Ts:=fun t ht=>by simp at ht;subst ht;exact hR
 have TOTS:=Fx toTs
 clear hone hJ hE hj hc toTs
 cases h0:tk 3 [[40]] c with
 | bad a e =>
   rw[h0] at hmk
   rw[iX h0]
   have HMK:=Fx hmk
   clear hmk h0
   go_enter func131,ntmps131
   go_wp2_with fail
   refine HMK.out.mono ?_
   rintro e1 w1 ⟨rfl,hm⟩
   have HM:=Fx hm
   clear hm
   go_wp2_with fail
   exact⟨rfl,az (HM.out.wide TOTS.out)⟩
 | ok t c1 =>
   rw[h0] at hmk
   have H0:=Fx h0
   have HMK:=Fx hmk
   clear hmk h0
   cases him:cV [41] c1 with
   | true =>
     rw[eY H0.out him]
     obtain⟨u,hu⟩:=fw him
     have HIM:=Fx him
     have HU:=Fx hu
     clear him hu
     go_enter func131,ntmps131
     go_wp2_with fail
     refine HMK.out.mono ?_
     rintro e1 w1 ⟨v1,rfl,⟨rfl,hr1⟩,hm⟩
     have HM:=Fx hm
     have HR1:=Fx hr1
     have his:=dh hr1 [41]
     rw[HIM.out] at his
     have HIS:=Fx his
     clear hm hr1 his
     unfold ak.v
     go_wp2_with fail
     refine HIS.out.mono ?_
     rintro e2 w2 ⟨rfl,hb2⟩
     have hmk2:=bf (B:=B) (Ts:=[213]) (HR1.out.keep hb2) [41] hB (by simp)
     rw[HU.out] at hmk2
     have HMK2:=Fx hmk2
     have HB2:=Fx hb2
     clear hb2 hmk2
     go_wp2_with fail
     refine HMK2.out.mono ?_
     rintro e3 w3 ⟨v3,rfl,⟨rfl,hr3⟩,hm3⟩
     have m3:MT B [213] w w3:=(HM.out.plusBelow HB2.out).trans hm3
     have M3:=Fx m3
     have HR3:=Fx hr3
     clear hr3 hm3 m3
     unfold ak.v
     go_wp2_with fail
     go_ret
     exact⟨_,rfl,⟨[],World.ownsRow_nil _ _ _ _,trivial,HJ.out _ _ _ (M3.out.wide (by simp)) HJW.out,HR3.out⟩,M3.out.wide TOTS.out⟩
   | false =>
     have HIM:=Fx him
     clear him
     cases hs:aQ P c1 with
     | bad a e =>
       rw[iZ H0.out HIM.out hs]
       have HS:=Fx hs
       clear hs
       go_enter func131,ntmps131
       go_wp2_with fail
       refine HMK.out.mono ?_
       rintro e1 w1 ⟨v1,rfl,⟨rfl,hr1⟩,hm⟩
       have HM:=Fx hm
       have HR1:=Fx hr1
       have his:=dh hr1 [41]
       rw[HIM.out] at his
       have HIS:=Fx his
       clear hm hr1 his
       unfold ak.v
       go_wp2_with fail
       refine HIS.out.mono ?_
       rintro e2 w2 ⟨rfl,hb2⟩
       have m2:MT B [213] w w2:=HM.out.plusBelow hb2
       have hso:=HSOME.out w2 c1 (HR1.out.keep hb2) (HJ.out _ _ _ (m2.wide (by simp)) HJW.out) (by have:=m2.size;omega)
       rw[HS.out] at hso
       have HSO:=Fx hso
       have M2:=Fx m2
       clear hso m2 hb2
       go_wp2_with fail
       refine HSO.out.mono ?_
       rintro e3 w3 ⟨rfl,hm3⟩
       have HM3:=Fx hm3
       clear hm3
       go_wp2_with fail
       exact⟨rfl,az ((M2.out.wide TOTS.out).trans HM3.out)⟩
     | ok xs c2 =>
       cases h4:tk 3 [[41]] c2 with
       | bad a e =>
         rw[iO H0.out HIM.out hs h4]
         have HS:=Fx hs
         have H4:=Fx h4
         clear hs h4
         go_enter func131,ntmps131
         go_wp2_with fail
         refine HMK.out.mono ?_
         rintro e1 w1 ⟨v1,rfl,⟨rfl,hr1⟩,hm⟩
         have HM:=Fx hm
         have HR1:=Fx hr1
         have his:=dh hr1 [41]
         rw[HIM.out] at his
         have HIS:=Fx his
         clear hm hr1 his
         unfold ak.v
         go_wp2_with fail
         refine HIS.out.mono ?_
         rintro e2 w2 ⟨rfl,hb2⟩
         have m2:MT B [213] w w2:=HM.out.plusBelow hb2
         have hso:=HSOME.out w2 c1 (HR1.out.keep hb2) (HJ.out _ _ _ (m2.wide (by simp)) HJW.out) (by have:=m2.size;omega)
         rw[HS.out] at hso
         have HSO:=Fx hso
         have M2:=Fx m2
         clear hso m2 hb2
         go_wp2_with fail
         refine HSO.out.mono ?_
         rintro e3 w3 ⟨v3,rfl,⟨css,hown,hal,hj3,hr3⟩,hm3⟩
         obtain⟨ad,cap,rfl⟩:=aB hown
         have hmk3:=bf (B:=B) (Ts:=[213]) hr3 [41] hB (by simp)
         rw[H4.out] at hmk3
         have hl2:=M2.out.size
         have HOWN:=Fx (World.ownsRow.low hown hl2)
         have HAL:=Fx hal
         have HJ3:=Fx hj3
         have HM3:=Fx ((M2.out.wide TOTS.out).trans hm3)
         have HMK3:=Fx hmk3
         clear hown hal hj3 hm3 hr3 hmk3
         go_wp2_with fail
         refine HMK3.out.mono ?_
         rintro e4 w4 ⟨rfl,hm4⟩
         have HM4:=Fx hm4
         clear hm4
         go_wp2_with fail
         exact⟨rfl,az (HM3.out.trans (HM4.out.wide TOTS.out))⟩
       | ok u c3 =>
         rw[iL H0.out HIM.out hs h4]
         have HS:=Fx hs
         have H4:=Fx h4
         clear hs h4
         go_enter func131,ntmps131
         go_wp2_with fail
         refine HMK.out.mono ?_
         rintro e1 w1 ⟨v1,rfl,⟨rfl,hr1⟩,hm⟩
         have HM:=Fx hm
         have HR1:=Fx hr1
         have his:=dh hr1 [41]
         rw[HIM.out] at his
         have HIS:=Fx his
         clear hm hr1 his
         unfold ak.v
         go_wp2_with fail
         refine HIS.out.mono ?_
         rintro e2 w2 ⟨rfl,hb2⟩
         have m2:MT B [213] w w2:=HM.out.plusBelow hb2
         have hso:=HSOME.out w2 c1 (HR1.out.keep hb2) (HJ.out _ _ _ (m2.wide (by simp)) HJW.out) (by have:=m2.size;omega)
         rw[HS.out] at hso
         have HSO:=Fx hso
         have M2:=Fx m2
         clear hso m2 hb2
         go_wp2_with fail
         refine HSO.out.mono ?_
         rintro e3 w3 ⟨v3,rfl,⟨css,hown,hal,hj3,hr3⟩,hm3⟩
         obtain⟨ad,cap,rfl⟩:=aB hown
         have hmk3:=bf (B:=B) (Ts:=[213]) hr3 [41] hB (by simp)
         rw[H4.out] at hmk3
         have hl2:=M2.out.size
         have HOWN:=Fx (World.ownsRow.low hown hl2)
         have HAL:=Fx hal
         have HJ3:=Fx hj3
         have HM3:=Fx ((M2.out.wide TOTS.out).trans hm3)
         have HMK3:=Fx hmk3
         clear hown hal hj3 hm3 hr3 hmk3
         go_wp2_with fail
         refine HMK3.out.mono ?_
         rintro e4 w4 ⟨v4,rfl,⟨rfl,hr4⟩,hm4⟩
         have HM4:=Fx hm4
         have HR4:=Fx hr4
         clear hm4 hr4
         unfold ak.v
         go_wp2_with fail
         go_ret
         exact⟨_,rfl,⟨css,HM4.out.ownsRow HOWN.out (by decide),HAL.out.mono (fun b a h=>⟨h.1,h.2.1,HE.out _ _ _ _ ((HM4.out.wide TOTS.out).wide (fun _ h=>List.mem_cons_of_mem _ h)) h.2.2⟩),HJ.out _ _ _ (HM4.out.wide (by simp)) HJ3.out,HR4.out⟩,HM3.out.trans (HM4.out.wide TOTS.out)⟩
theorem Tryz.info_Tm:(prog.info? 234).map (fun i=>(i.zero,i.size,i.bytes))=some (some (.agg #[.string ⟨#[]⟩,.int .i64 0,.int .i64 0,.string ⟨#[]⟩,.int .i64 0]),5,56):=by kernel_rfl
theorem CJ {α:Type} (P:List ak->PR α) (El:World->List Value->α->Prop) (J:World->List α->Prop) (B:Nat) (Ts:List TypeId) (r:Nat) (vt:Value) (lb:Array Value)
 (hP:dp P) (hB:B<=r) (hR:213∈Ts) (hT:234 ∉ Ts)
 (hJ:∀ (w w':World) (xs:List α),MT B [234,213] w w'->J w xs->J w' xs)
 (hE:∀ (w w':World) (cs:List Value) (x:α),MT B (234::Ts) w w'->El w cs x->El w' cs x)
 (hone:∀ (w:World) (xs:List α) (c:List ak),B<=w.heap.size->J w xs->Rs w r c vt->Calls prog 137 lb w (aX (fun x c' v w'=>lx 5 El J r vt xs x c' v w') B Ts w (P c)))
 (w:World) (c:List ak) (hc:Rs w r c vt) (hj:J w []) (hw:B<=w.heap.size) :
 Calls prog 199 #[.pointer (some ⟨r,0,none⟩),.func (.func 137) #[] lb] w (aX (fun xs c' v w'=>jW w.heap.size 234 5 El J r vt xs c' v w') B Ts w (aQ P c)):=by
 obtain⟨i0,hi0,hz0,hz1,hz2⟩:=info_parts Tryz.info_Tm
 have hlen:=hc.len
 have HONE:=Fx hone
 have HJ:=Fx hJ
 have HE:=Fx hE
 have hone0:=hone w [] c hw hj hc
 have hTR:234 ∉ [213]:=by decide
 clear hone hJ hE hj hc
 cases hp:P c with
 | bad a e =>
   rw[hp] at hone0
   rw[er hp]
   have HO:=Fx hone0
   clear hp hone0
   go_enter func199,ntmps199
   go_wp2_with fail
   refine HO.out.mono ?_
   rintro e' w1 ⟨rfl,hm⟩
   have HM:=Fx hm
   clear hm
   go_wp2_with fail
   exact⟨rfl,az HM.out⟩
 | ok x c1 =>
   rw[hp] at hone0
   rw[ek hp]
   have HO:=Fx hone0
   have hl1:=hP _ _ _ hp
   clear hp hone0
   have HRES:Hid (bz P [x] c1=bz P [x] c1):=Fx rfl
   generalize hres:bz P [x] c1=RES at HRES ⊢
   clear HRES
   have HRS:=Fx hres
   clear hres
   go_enter func199,ntmps199
   go_wp2_with fail
   refine HO.out.mono ?_
   rintro e' w1 ⟨v,rfl,⟨cs,rfl,⟨hl,h1,he⟩,hj1,hr1⟩,hm⟩
   obtain⟨e0,e1,e2,e3,e4,rfl⟩:=EM hl
   have hsz1:=hm.size
   have hal:MT B [234,213] w1 (w1.alloc (.cells #[e0,e1,e2,e3,e4] 234)):=(MT.refl w1).alloc _
   have HJ1:=Fx (HJ.out _ _ _ hal hj1)
   have HM1:=Fx (hm.alloc (.cells #[e0,e1,e2,e3,e4] 234))
   have HE1:=Fx (show jE 5 El (w1.alloc (.cells #[e0,e1,e2,e3,e4] 234)) [e0,e1,e2,e3,e4] x from ⟨hl,h1,HE.out _ _ _ _ ((MT.refl w1).alloc _) he⟩)
   have HR1:=Fx (hr1.keep (ae Fy (.cells #[e0,e1,e2,e3,e4] 234)))
   have HO1:=Fx (World.ownsRow_lit (base:=w.heap.size) (e:=234) (size:=5) w1 #[e0,e1,e2,e3,e4] 1 hsz1 (by unfold maxLen;omega) rfl)
   clear hl h1 he hj1 hr1 hm hal HO
   go_wp2_with fail
   go_loopw [5] (fun v wr=>∃ (ys:List α) (css:List (List Value)) (cc:List ak) (ad:Option Addr) (cap:Nat),v=.slice ad ys.length cap/\Hid (wr.ownsRow w.heap.size 234 5 (.slice ad ys.length cap) ys.length css.flatten)/\Hid (aH (jE 5 El wr) css ys)/\Hid (J wr ys)/\Hid (Rs wr r cc vt)/\Hid (MT B Ts w wr)/\Hid (bz P ys cc=RES)/\ys.length+cc.length<=200000) (fun v _=>200000 - (match v with | .slice _ n _=>n | _=>0))
   case atStart=>exact⟨[x],[[e0,e1,e2,e3,e4]],c1,some ⟨w1.heap.size,0,none⟩,1,rfl,HO1,Fx ⟨HE1.out,trivial⟩,HJ1,HR1,HM1,HRS,by simp;omega⟩
   case round =>
    obtain⟨ys,css,cc,ad,cap,rfl,OW,AL,JW,RW,MW,RE,hbd⟩:=hrel
    have HIS:=Fx (dh RW.out [44])
    cases him:cV [44] cc with
    | false =>
      have hre:=RE.out
      rw[cY ys him] at hre
      rw[him] at HIS
      subst hre
      clear him
      go_wp2_with fail
      refine HIS.out.mono ?_
      rintro e2 w2 ⟨rfl,hb2⟩
      have HB2:=Fx hb2
      clear hb2
      go_wp2_with fail
      go_ret
      refine⟨_,rfl,⟨css,(aq.ofBelow (F:=fun _=>False) HB2.out).ownsRow OW.out (fun _ _ f=>f),AL.out.mono (fun b a h=>⟨h.1,h.2.1,HE.out _ _ _ _ (MT.ofBelow HB2.out) h.2.2⟩),HJ.out _ _ _ (MT.ofBelow HB2.out) JW.out,RW.out.keep HB2.out⟩,MW.out.plusBelow HB2.out⟩
    | true =>
      obtain⟨t,htk⟩:=fw him
      have hne:1<=cc.length:=by
       cases cc with
       | nil=>simp [cV] at him
       | cons _ _=>simp
      have hdl:(cc.drop 1).length=cc.length - 1:=List.length_drop ..
      rw[him] at HIS
      have HIM:=Fx him
      have HTK:=Fx htk
      clear him htk
      go_wp2_with fail
      refine HIS.out.mono ?_
      rintro e2 w2 ⟨rfl,hb2⟩
      have HMK:=Fx (bf (B:=B) (Ts:=[213]) (RW.out.keep hb2) [44] hB (by simp))
      rw[HTK.out] at HMK
      have HB2:=Fx hb2
      clear hb2
      go_wp2_with fail
      refine HMK.out.mono ?_
      rintro e3 w3 ⟨v3,rfl,⟨rfl,hr3⟩,hm3⟩
      have m03:MT B [213] wr w3:=(MT.ofBelow HB2.out).trans hm3
      have hB3:B<=w3.heap.size:=by have:=MW.out.size;have:=m03.size;omega
      have hone3:=HONE.out w3 ys (cc.drop 1) hB3 (HJ.out _ _ _ (m03.wide (by simp)) JW.out) hr3
      have M03:=Fx m03
      have toTs:∀ t∈[213],t∈Ts:=fun t ht=>by simp at ht;subst ht;exact hR
      have TOTS:=Fx toTs
      clear hr3 hm3 m03 toTs
      unfold ak.v
      cases hp:P (cc.drop 1) with
      | bad a e =>
        rw[hp] at hone3
        have hre:=RE.out
        rw[ea ys HIM.out hp] at hre
        subst hre
        have HO3:=Fx hone3
        clear hp hone3
        go_wp2_with fail
        refine HO3.out.mono ?_
        rintro e4 w4 ⟨rfl,hm4⟩
        have HM4:=Fx hm4
        clear hm4
        go_wp2_with fail
        exact⟨rfl,az ((MW.out.trans (M03.out.wide TOTS.out)).trans HM4.out)⟩
      | ok x c4 =>
        rw[hp] at hone3
        have hre:=dQ hP ys HIM.out hp
        have hl4:=hP _ _ _ hp
        have hrq:=hre.1
        rw[RE.out] at hrq
        have HRE:=Fx hrq.symm
        have HO3:=Fx hone3
        clear hp hone3 hre hrq
        go_wp2_with fail
        refine HO3.out.mono ?_
        rintro e4 w4 ⟨v4,rfl,⟨cs4,rfl,⟨hl,h1,he⟩,hj4,hr4⟩,hm4⟩
        obtain⟨e0,e1,e2,e3,e4,rfl⟩:=EM hl
        have m04:MT B Ts wr w4:=(M03.out.wide TOTS.out).trans hm4
        have HO4:=Fx (m04.ownsRow OW.out hT)
        have HW4:=Fx (MW.out.trans m04)
        have hsz4:=HW4.out.size
        have M04:=Fx m04
        have H1:=Fx h1
        have HEL:=Fx he
        have HJ4:=Fx hj4
        have HR4:=Fx hr4
        clear hl h1 he hj4 hr4 hm4 m04
        go_wp2_with (at_builtin;refine wpList_append_lies _ rfl (.tmp 13) (.tmp 16) 229 rfl w.heap.size 234 i0 (.agg #[.string ⟨#[]⟩,.int .i64 0,.int .i64 0,.string ⟨#[]⟩,.int .i64 0]) 5 56 underlying229 hi0 hz0 hz1 hz2 rfl (by decide) (.slice ad ys.length cap) ys.length _ rfl (HO4.out.alloc _) ⟨_,0,none⟩ 1 1 [e0,e1,e2,e3,e4] rfl rfl (World.news_of_block (af.new _ _ _)) H1.out (by decide) ?c3 ?c5 ?c4 _ rfl ?_)
        case c3=>unfold maxLen;omega
        case c5=>omega
        case c4=>simp;omega
        intro g cap1 w5 hown2 hgrow2 hat2 hlt2
        have m45:MT B [234] w4 w5:=((MT.refl w4).alloc _).grown hgrow2 (HO4.out.alloc _) (by simp) hw
        have mall:MT B (234::Ts) wr w5:=(M04.out.wide (fun _ h=>List.mem_cons_of_mem _ h)).trans (m45.wide (by simp))
        have HO5:=Fx hown2
        have MALL:=Fx mall
        have M45:=Fx m45
        have HG:=Fx hgrow2
        clear hown2 hgrow2 hat2 hlt2 m45 mall
        go_wp2_with fail
        go_roundw
        case rel =>
         refine⟨ys++[x],css++[[e0,e1,e2,e3,e4]],c4,some ⟨g,0,none⟩,cap1,by simp,Fx ?_,Fx ?_,Fx (HJ.out _ _ _ (M45.out.wide (by simp)) HJ4.out),Fx (HR4.out.mt M45.out (by decide) (by decide)),Fx ?_,HRE,by simp;omega⟩
         ·have:=HO5.out
          simpa [List.flatten_append] using this
         ·exact (AL.out.mono (fun b a h=>⟨h.1,h.2.1,HE.out _ _ _ _ MALL.out h.2.2⟩)).snoc ⟨rfl,H1.out,HE.out _ _ _ _ (M45.out.wide (by simp)) HEL.out⟩
         ·exact aq.grown (HW4.out.alloc _) HG.out (fun k hk hlt=>by have:=(HO4.out.lt k hk).1;omega)
        case measure=>simp;omega
theorem Dn {α:Type} (P:List ak->PR α) (El:World->List Value->α->Prop) (J:World->List α->Prop) (B:Nat) (Ts:List TypeId) (r:Nat) (vt:Value) (lb:Array Value)
 (hP:dp P) (hB:B<=r) (hR:213∈Ts) (hT:234 ∉ Ts)
 (hJ:∀ (w w':World) (xs:List α),MT B [234,213] w w'->J w xs->J w' xs)
 (hE:∀ (w w':World) (cs:List Value) (x:α),MT B (234::Ts) w w'->El w cs x->El w' cs x)
 (hone:∀ (w:World) (xs:List α) (c:List ak),B<=w.heap.size->J w xs->Rs w r c vt->Calls prog 137 lb w (aX (fun x c' v w'=>lx 5 El J r vt xs x c' v w') B Ts w (P c)))
 (w:World) (c:List ak) (hc:Rs w r c vt) (hj:J w []) (hw:B<=w.heap.size) :
 Calls prog 136 #[.pointer (some ⟨r,0,none⟩),.func (.func 137) #[] lb] w (aX (fun xs c' v w'=>jW w.heap.size 234 5 El J r vt xs c' v w') B Ts w (aJ P c)):=by
 have HSOME:=Fx (fun W C=>CJ P El J B Ts r vt lb hP hB hR hT hJ hE hone W C)
 have HJ:=Fx hJ
 have HE:=Fx hE
 have hmk:=bf (B:=B) (Ts:=[213]) hc [40] hB (by simp)
 have HJW:=Fx hj
 have toTs:∀ t∈[213],t∈Ts:=fun t ht=>by simp at ht;subst ht;exact hR
 have TOTS:=Fx toTs
 clear hone hJ hE hj hc toTs
 cases h0:tk 3 [[40]] c with
 | bad a e =>
   rw[h0] at hmk
   rw[iX h0]
   have HMK:=Fx hmk
   clear hmk h0
   go_enter func136,ntmps136
   go_wp2_with fail
   refine HMK.out.mono ?_
   rintro e1 w1 ⟨rfl,hm⟩
   have HM:=Fx hm
   clear hm
   go_wp2_with fail
   exact⟨rfl,az (HM.out.wide TOTS.out)⟩
 | ok t c1 =>
   rw[h0] at hmk
   have H0:=Fx h0
   have HMK:=Fx hmk
   clear hmk h0
   cases him:cV [41] c1 with
   | true =>
     rw[eY H0.out him]
     obtain⟨u,hu⟩:=fw him
     have HIM:=Fx him
     have HU:=Fx hu
     clear him hu
     go_enter func136,ntmps136
     go_wp2_with fail
     refine HMK.out.mono ?_
     rintro e1 w1 ⟨v1,rfl,⟨rfl,hr1⟩,hm⟩
     have HM:=Fx hm
     have HR1:=Fx hr1
     have his:=dh hr1 [41]
     rw[HIM.out] at his
     have HIS:=Fx his
     clear hm hr1 his
     unfold ak.v
     go_wp2_with fail
     refine HIS.out.mono ?_
     rintro e2 w2 ⟨rfl,hb2⟩
     have hmk2:=bf (B:=B) (Ts:=[213]) (HR1.out.keep hb2) [41] hB (by simp)
     rw[HU.out] at hmk2
     have HMK2:=Fx hmk2
     have HB2:=Fx hb2
     clear hb2 hmk2
     go_wp2_with fail
     refine HMK2.out.mono ?_
     rintro e3 w3 ⟨v3,rfl,⟨rfl,hr3⟩,hm3⟩
     have m3:MT B [213] w w3:=(HM.out.plusBelow HB2.out).trans hm3
     have M3:=Fx m3
     have HR3:=Fx hr3
     clear hr3 hm3 m3
     unfold ak.v
     go_wp2_with fail
     go_ret
     exact⟨_,rfl,⟨[],World.ownsRow_nil _ _ _ _,trivial,HJ.out _ _ _ (M3.out.wide (by simp)) HJW.out,HR3.out⟩,M3.out.wide TOTS.out⟩
   | false =>
     have HIM:=Fx him
     clear him
     cases hs:aQ P c1 with
     | bad a e =>
       rw[iZ H0.out HIM.out hs]
       have HS:=Fx hs
       clear hs
       go_enter func136,ntmps136
       go_wp2_with fail
       refine HMK.out.mono ?_
       rintro e1 w1 ⟨v1,rfl,⟨rfl,hr1⟩,hm⟩
       have HM:=Fx hm
       have HR1:=Fx hr1
       have his:=dh hr1 [41]
       rw[HIM.out] at his
       have HIS:=Fx his
       clear hm hr1 his
       unfold ak.v
       go_wp2_with fail
       refine HIS.out.mono ?_
       rintro e2 w2 ⟨rfl,hb2⟩
       have m2:MT B [213] w w2:=HM.out.plusBelow hb2
       have hso:=HSOME.out w2 c1 (HR1.out.keep hb2) (HJ.out _ _ _ (m2.wide (by simp)) HJW.out) (by have:=m2.size;omega)
       rw[HS.out] at hso
       have HSO:=Fx hso
       have M2:=Fx m2
       clear hso m2 hb2
       go_wp2_with fail
       refine HSO.out.mono ?_
       rintro e3 w3 ⟨rfl,hm3⟩
       have HM3:=Fx hm3
       clear hm3
       go_wp2_with fail
       exact⟨rfl,az ((M2.out.wide TOTS.out).trans HM3.out)⟩
     | ok xs c2 =>
       cases h4:tk 3 [[41]] c2 with
       | bad a e =>
         rw[iO H0.out HIM.out hs h4]
         have HS:=Fx hs
         have H4:=Fx h4
         clear hs h4
         go_enter func136,ntmps136
         go_wp2_with fail
         refine HMK.out.mono ?_
         rintro e1 w1 ⟨v1,rfl,⟨rfl,hr1⟩,hm⟩
         have HM:=Fx hm
         have HR1:=Fx hr1
         have his:=dh hr1 [41]
         rw[HIM.out] at his
         have HIS:=Fx his
         clear hm hr1 his
         unfold ak.v
         go_wp2_with fail
         refine HIS.out.mono ?_
         rintro e2 w2 ⟨rfl,hb2⟩
         have m2:MT B [213] w w2:=HM.out.plusBelow hb2
         have hso:=HSOME.out w2 c1 (HR1.out.keep hb2) (HJ.out _ _ _ (m2.wide (by simp)) HJW.out) (by have:=m2.size;omega)
         rw[HS.out] at hso
         have HSO:=Fx hso
         have M2:=Fx m2
         clear hso m2 hb2
         go_wp2_with fail
         refine HSO.out.mono ?_
         rintro e3 w3 ⟨v3,rfl,⟨css,hown,hal,hj3,hr3⟩,hm3⟩
         obtain⟨ad,cap,rfl⟩:=aB hown
         have hmk3:=bf (B:=B) (Ts:=[213]) hr3 [41] hB (by simp)
         rw[H4.out] at hmk3
         have hl2:=M2.out.size
         have HOWN:=Fx (World.ownsRow.low hown hl2)
         have HAL:=Fx hal
         have HJ3:=Fx hj3
         have HM3:=Fx ((M2.out.wide TOTS.out).trans hm3)
         have HMK3:=Fx hmk3
         clear hown hal hj3 hm3 hr3 hmk3
         go_wp2_with fail
         refine HMK3.out.mono ?_
         rintro e4 w4 ⟨rfl,hm4⟩
         have HM4:=Fx hm4
         clear hm4
         go_wp2_with fail
         exact⟨rfl,az (HM3.out.trans (HM4.out.wide TOTS.out))⟩
       | ok u c3 =>
         rw[iL H0.out HIM.out hs h4]
         have HS:=Fx hs
         have H4:=Fx h4
         clear hs h4
         go_enter func136,ntmps136
         go_wp2_with fail
         refine HMK.out.mono ?_
         rintro e1 w1 ⟨v1,rfl,⟨rfl,hr1⟩,hm⟩
         have HM:=Fx hm
         have HR1:=Fx hr1
         have his:=dh hr1 [41]
         rw[HIM.out] at his
         have HIS:=Fx his
         clear hm hr1 his
         unfold ak.v
         go_wp2_with fail
         refine HIS.out.mono ?_
         rintro e2 w2 ⟨rfl,hb2⟩
         have m2:MT B [213] w w2:=HM.out.plusBelow hb2
         have hso:=HSOME.out w2 c1 (HR1.out.keep hb2) (HJ.out _ _ _ (m2.wide (by simp)) HJW.out) (by have:=m2.size;omega)
         rw[HS.out] at hso
         have HSO:=Fx hso
         have M2:=Fx m2
         clear hso m2 hb2
         go_wp2_with fail
         refine HSO.out.mono ?_
         rintro e3 w3 ⟨v3,rfl,⟨css,hown,hal,hj3,hr3⟩,hm3⟩
         obtain⟨ad,cap,rfl⟩:=aB hown
         have hmk3:=bf (B:=B) (Ts:=[213]) hr3 [41] hB (by simp)
         rw[H4.out] at hmk3
         have hl2:=M2.out.size
         have HOWN:=Fx (World.ownsRow.low hown hl2)
         have HAL:=Fx hal
         have HJ3:=Fx hj3
         have HM3:=Fx ((M2.out.wide TOTS.out).trans hm3)
         have HMK3:=Fx hmk3
         clear hown hal hj3 hm3 hr3 hmk3
         go_wp2_with fail
         refine HMK3.out.mono ?_
         rintro e4 w4 ⟨v4,rfl,⟨rfl,hr4⟩,hm4⟩
         have HM4:=Fx hm4
         have HR4:=Fx hr4
         clear hm4 hr4
         unfold ak.v
         go_wp2_with fail
         go_ret
         exact⟨_,rfl,⟨css,HM4.out.ownsRow HOWN.out (by decide),HAL.out.mono (fun b a h=>⟨h.1,h.2.1,HE.out _ _ _ _ ((HM4.out.wide TOTS.out).wide (fun _ h=>List.mem_cons_of_mem _ h)) h.2.2⟩),HJ.out _ _ _ (HM4.out.wide (by simp)) HJ3.out,HR4.out⟩,HM3.out.trans (HM4.out.wide TOTS.out)⟩
theorem Tryz.info_At:(prog.info? 231).map (fun i=>(i.zero,i.size,i.bytes))=some (some (.agg #[.string ⟨#[]⟩,.int .i64 0,.slice none 0 0]),3,48):=by kernel_rfl
theorem CI {α:Type} (P:List ak->PR α) (El:World->List Value->α->Prop) (J:World->List α->Prop) (B:Nat) (Ts:List TypeId) (r:Nat) (vt:Value) (lb:Array Value)
 (hP:dp P) (hB:B<=r) (hR:213∈Ts) (hT:231 ∉ Ts)
 (hJ:∀ (w w':World) (xs:List α),MT B [231,213] w w'->J w xs->J w' xs)
 (hE:∀ (w w':World) (cs:List Value) (x:α),MT B (231::Ts) w w'->El w cs x->El w' cs x)
 (hone:∀ (w:World) (xs:List α) (c:List ak),B<=w.heap.size->J w xs->Rs w r c vt->Calls prog 135 lb w (aX (fun x c' v w'=>lx 3 El J r vt xs x c' v w') B Ts w (P c)))
 (w:World) (c:List ak) (hc:Rs w r c vt) (hj:J w []) (hw:B<=w.heap.size) :
 Calls prog 134 #[.pointer (some ⟨r,0,none⟩),.func (.func 135) #[] lb] w (aX (fun xs c' v w'=>jW w.heap.size 231 3 El J r vt xs c' v w') B Ts w (aQ P c)):=by
 obtain⟨i0,hi0,hz0,hz1,hz2⟩:=info_parts Tryz.info_At
 have hlen:=hc.len
 have HONE:=Fx hone
 have HJ:=Fx hJ
 have HE:=Fx hE
 have hone0:=hone w [] c hw hj hc
 have hTR:231 ∉ [213]:=by decide
 clear hone hJ hE hj hc
 cases hp:P c with
 | bad a e =>
   rw[hp] at hone0
   rw[er hp]
   have HO:=Fx hone0
   clear hp hone0
   go_enter func134,ntmps134
   go_wp2_with fail
   refine HO.out.mono ?_
   rintro e' w1 ⟨rfl,hm⟩
   have HM:=Fx hm
   clear hm
   go_wp2_with fail
   exact⟨rfl,az HM.out⟩
 | ok x c1 =>
   rw[hp] at hone0
   rw[ek hp]
   have HO:=Fx hone0
   have hl1:=hP _ _ _ hp
   clear hp hone0
   have HRES:Hid (bz P [x] c1=bz P [x] c1):=Fx rfl
   generalize hres:bz P [x] c1=RES at HRES ⊢
   clear HRES
   have HRS:=Fx hres
   clear hres
   go_enter func134,ntmps134
   go_wp2_with fail
   refine HO.out.mono ?_
   rintro e' w1 ⟨v,rfl,⟨cs,rfl,⟨hl,h1,he⟩,hj1,hr1⟩,hm⟩
   obtain⟨e0,e1,e2,rfl⟩:=te hl
   have hsz1:=hm.size
   have hal:MT B [231,213] w1 (w1.alloc (.cells #[e0,e1,e2] 231)):=(MT.refl w1).alloc _
   have HJ1:=Fx (HJ.out _ _ _ hal hj1)
   have HM1:=Fx (hm.alloc (.cells #[e0,e1,e2] 231))
   have HE1:=Fx (show jE 3 El (w1.alloc (.cells #[e0,e1,e2] 231)) [e0,e1,e2] x from ⟨hl,h1,HE.out _ _ _ _ ((MT.refl w1).alloc _) he⟩)
   have HR1:=Fx (hr1.keep (ae Fy (.cells #[e0,e1,e2] 231)))
   have HO1:=Fx (World.ownsRow_lit (base:=w.heap.size) (e:=231) (size:=3) w1 #[e0,e1,e2] 1 hsz1 (by unfold maxLen;omega) rfl)
   clear hl h1 he hj1 hr1 hm hal HO
   go_wp2_with fail
   go_loopw [5] (fun v wr=>∃ (ys:List α) (css:List (List Value)) (cc:List ak) (ad:Option Addr) (cap:Nat),v=.slice ad ys.length cap/\Hid (wr.ownsRow w.heap.size 231 3 (.slice ad ys.length cap) ys.length css.flatten)/\Hid (aH (jE 3 El wr) css ys)/\Hid (J wr ys)/\Hid (Rs wr r cc vt)/\Hid (MT B Ts w wr)/\Hid (bz P ys cc=RES)/\ys.length+cc.length<=200000) (fun v _=>200000 - (match v with | .slice _ n _=>n | _=>0))
   case atStart=>exact⟨[x],[[e0,e1,e2]],c1,some ⟨w1.heap.size,0,none⟩,1,rfl,HO1,Fx ⟨HE1.out,trivial⟩,HJ1,HR1,HM1,HRS,by simp;omega⟩
   case round =>
    obtain⟨ys,css,cc,ad,cap,rfl,OW,AL,JW,RW,MW,RE,hbd⟩:=hrel
    have HIS:=Fx (dh RW.out [44])
    cases him:cV [44] cc with
    | false =>
      have hre:=RE.out
      rw[cY ys him] at hre
      rw[him] at HIS
      subst hre
      clear him
      go_wp2_with fail
      refine HIS.out.mono ?_
      rintro e2 w2 ⟨rfl,hb2⟩
      have HB2:=Fx hb2
      clear hb2
      go_wp2_with fail
      go_ret
      refine⟨_,rfl,⟨css,(aq.ofBelow (F:=fun _=>False) HB2.out).ownsRow OW.out (fun _ _ f=>f),AL.out.mono (fun b a h=>⟨h.1,h.2.1,HE.out _ _ _ _ (MT.ofBelow HB2.out) h.2.2⟩),HJ.out _ _ _ (MT.ofBelow HB2.out) JW.out,RW.out.keep HB2.out⟩,MW.out.plusBelow HB2.out⟩
    | true =>
      obtain⟨t,htk⟩:=fw him
      have hne:1<=cc.length:=by
       cases cc with
       | nil=>simp [cV] at him
       | cons _ _=>simp
      have hdl:(cc.drop 1).length=cc.length - 1:=List.length_drop ..
      rw[him] at HIS
      have HIM:=Fx him
      have HTK:=Fx htk
      clear him htk
      go_wp2_with fail
      refine HIS.out.mono ?_
      rintro e2 w2 ⟨rfl,hb2⟩
      have HMK:=Fx (bf (B:=B) (Ts:=[213]) (RW.out.keep hb2) [44] hB (by simp))
      rw[HTK.out] at HMK
      have HB2:=Fx hb2
      clear hb2
      go_wp2_with fail
      refine HMK.out.mono ?_
      rintro e3 w3 ⟨v3,rfl,⟨rfl,hr3⟩,hm3⟩
      have m03:MT B [213] wr w3:=(MT.ofBelow HB2.out).trans hm3
      have hB3:B<=w3.heap.size:=by have:=MW.out.size;have:=m03.size;omega
      have hone3:=HONE.out w3 ys (cc.drop 1) hB3 (HJ.out _ _ _ (m03.wide (by simp)) JW.out) hr3
      have M03:=Fx m03
      have toTs:∀ t∈[213],t∈Ts:=fun t ht=>by simp at ht;subst ht;exact hR
      have TOTS:=Fx toTs
      clear hr3 hm3 m03 toTs
      unfold ak.v
      cases hp:P (cc.drop 1) with
      | bad a e =>
        rw[hp] at hone3
        have hre:=RE.out
        rw[ea ys HIM.out hp] at hre
        subst hre
        have HO3:=Fx hone3
        clear hp hone3
        go_wp2_with fail
        refine HO3.out.mono ?_
        rintro e4 w4 ⟨rfl,hm4⟩
        have HM4:=Fx hm4
        clear hm4
        go_wp2_with fail
        exact⟨rfl,az ((MW.out.trans (M03.out.wide TOTS.out)).trans HM4.out)⟩
      | ok x c4 =>
        rw[hp] at hone3
        have hre:=dQ hP ys HIM.out hp
        have hl4:=hP _ _ _ hp
        have hrq:=hre.1
        rw[RE.out] at hrq
        have HRE:=Fx hrq.symm
        have HO3:=Fx hone3
        clear hp hone3 hre hrq
        go_wp2_with fail
        refine HO3.out.mono ?_
        rintro e4 w4 ⟨v4,rfl,⟨cs4,rfl,⟨hl,h1,he⟩,hj4,hr4⟩,hm4⟩
        obtain⟨e0,e1,e2,rfl⟩:=te hl
        have m04:MT B Ts wr w4:=(M03.out.wide TOTS.out).trans hm4
        have HO4:=Fx (m04.ownsRow OW.out hT)
        have HW4:=Fx (MW.out.trans m04)
        have hsz4:=HW4.out.size
        have M04:=Fx m04
        have H1:=Fx h1
        have HEL:=Fx he
        have HJ4:=Fx hj4
        have HR4:=Fx hr4
        clear hl h1 he hj4 hr4 hm4 m04
        go_wp2_with (at_builtin;refine wpList_append_lies _ rfl (.tmp 13) (.tmp 16) 227 rfl w.heap.size 231 i0 (.agg #[.string ⟨#[]⟩,.int .i64 0,.slice none 0 0]) 3 48 underlying227 hi0 hz0 hz1 hz2 rfl (by decide) (.slice ad ys.length cap) ys.length _ rfl (HO4.out.alloc _) ⟨_,0,none⟩ 1 1 [e0,e1,e2] rfl rfl (World.news_of_block (af.new _ _ _)) H1.out (by decide) ?c3 ?c5 ?c4 _ rfl ?_)
        case c3=>unfold maxLen;omega
        case c5=>omega
        case c4=>simp;omega
        intro g cap1 w5 hown2 hgrow2 hat2 hlt2
        have m45:MT B [231] w4 w5:=((MT.refl w4).alloc _).grown hgrow2 (HO4.out.alloc _) (by simp) hw
        have mall:MT B (231::Ts) wr w5:=(M04.out.wide (fun _ h=>List.mem_cons_of_mem _ h)).trans (m45.wide (by simp))
        have HO5:=Fx hown2
        have MALL:=Fx mall
        have M45:=Fx m45
        have HG:=Fx hgrow2
        clear hown2 hgrow2 hat2 hlt2 m45 mall
        go_wp2_with fail
        go_roundw
        case rel =>
         refine⟨ys++[x],css++[[e0,e1,e2]],c4,some ⟨g,0,none⟩,cap1,by simp,Fx ?_,Fx ?_,Fx (HJ.out _ _ _ (M45.out.wide (by simp)) HJ4.out),Fx (HR4.out.mt M45.out (by decide) (by decide)),Fx ?_,HRE,by simp;omega⟩
         ·have:=HO5.out
          simpa [List.flatten_append] using this
         ·exact (AL.out.mono (fun b a h=>⟨h.1,h.2.1,HE.out _ _ _ _ MALL.out h.2.2⟩)).snoc ⟨rfl,H1.out,HE.out _ _ _ _ (M45.out.wide (by simp)) HEL.out⟩
         ·exact aq.grown (HW4.out.alloc _) HG.out (fun k hk hlt=>by have:=(HO4.out.lt k hk).1;omega)
        case measure=>simp;omega
def dw (x:List UInt8 × Int):List Value:=[.string ⟨x.1.toArray⟩,.int .i64 x.2]
def gV (x:dd × Int):List Value:=[.string ⟨x.1.x.toArray⟩,.int .i64 x.1.k,.int .i64 x.1.n,.string ⟨x.1.t.toArray⟩,.int .i64 x.2]
theorem eE (w:World):TX w (.slice none 0 0) []:=⟨by simp,none,0,rfl,.inl rfl⟩
theorem zU {c:List ak} {a e:Int} (h:tk 1 [] c=.bad a e):aY c=.bad a e:=by
 unfold aY
 rw[h]
theorem C4 {c c1:List ak} {t:ak} (h:tk 1 [] c=.ok t c1):aY c=.ok (t.x,t.p) c1:=by
 unfold aY
 rw[h]
theorem iI {w:World} {r:Nat} {c:List ak} {vt:Value} {B:Nat} (h:Rs w r c vt) (hB:B<=r) :
 Calls prog 130 #[.pointer (some ⟨r,0,none⟩)] w (aX (fun x c' v w'=>v=.agg (dw x).toArray/\Rs w' r c' vt) B [213] w (aY c)):=by
 have hb0:Below w.heap.size w (w.alloc (.cells #[.string ⟨#[]⟩,.int .i64 0] 221)):=ae Fy _
 have htk:=cN (B:=B) (Ts:=[213]) (h.keep hb0) 1 [] _ (eE _) hB (by simp)
 have zb:=af.new w 221 #[.string ⟨#[]⟩,.int .i64 0]
 have hrl:=h.lt
 have HB0:=Fx hb0
 have ZB:=Fx zb
 clear h hb0 zb
 cases h0:tk 1 [] c with
 | bad a e =>
   rw[zU h0]
   rw[h0] at htk
   have HTK:=Fx htk
   clear h0 htk
   go_enter func130,ntmps130
   go_wp2_with fail
   refine HTK.out.mono ?_
   rintro e w1 ⟨rfl,hm⟩
   have HM:=Fx hm
   clear hm
   go_wp2_with fail
   exact⟨rfl,az ((MT.ofBelow HB0.out).trans HM.out)⟩
 | ok t c1 =>
   rw[C4 h0]
   rw[h0] at htk
   have HTK:=Fx htk
   clear h0 htk
   go_enter func130,ntmps130
   go_wp2_with fail
   refine HTK.out.mono ?_
   rintro e w1 ⟨v,rfl,⟨rfl,hr1⟩,hm⟩
   have zb1:=ZB.out.mt hm (by decide)
   have hlt:=zb1.lt
   have ZB1:=Fx zb1
   have HM:=Fx hm
   have HR1:=Fx hr1
   clear zb1 hm hr1
   unfold ak.v
   go_wp2_with (refine ar rfl 221 _ _ rfl w.heap.size 221 _ _ rfl rfl (ZB1.out.alloc _) (by kernel_rfl) rfl (by simp [Value.oneCell']) ?_)
   intro w2 hb2 hm2 hz2
   have r0:=hb2.cell 0
   have r1:=hb2.cell 1
   simp only[FF] at r0 r1
   have HM2:=Fx ((((MT.ofBelow HB0.out).trans HM.out).alloc (.cells #[.int .i64 t.k,.string ⟨t.x.toArray⟩,.int .i64 t.vk,.int .i64 t.vn,.string ⟨t.vt.toArray⟩,.int .i64 t.p] 122)).own hm2 FA)
   have HR2:=Fx ((HR1.out.keep (ae Fy _)).mt (MT.ofMod (B:=0) (Ts:=[221]) hm2 (ZB1.out.alloc _) (by simp) (Fz)) (by decide) (by decide))
   clear hb2 hm2 hz2
   go_wp2_with fail
   exact bodyPost_ret (v:=.agg #[.string ⟨t.x.toArray⟩,.int .i64 t.p]) (by simp [results,results130,go_sem, *]) rfl ⟨_,rfl,⟨rfl,HR2.out⟩,HM2.out⟩
theorem rW {c c1:List ak} {t:ak} (hl:kQ c=true) (h:tk 2 [] c=.ok t c1):bK c=.ok (⟨[],t.vk,t.vn,t.vt⟩,t.p) c1:=by
 unfold bK
 rw[if_pos hl,h]
theorem rp {c:List ak} {a e:Int} (hl:kQ c=false) (h:tk 1 [] c=.bad a e):bK c=.bad a e:=by
 unfold bK
 rw[if_neg (by rw[hl];simp),h]
theorem tJ {c c1:List ak} {t:ak} (hl:kQ c=false) (h:tk 1 [] c=.ok t c1):bK c=.ok (⟨t.x,0,0,[]⟩,t.p) c1:=by
 unfold bK
 rw[if_neg (by rw[hl];simp),h]
theorem De {k:Int} {t u:ak} {c c1:List ak} (h:tk k [] (t::c)=.ok u c1):u=t:=by
 by_cases hf:t.k=k/\(([]:List (List UInt8))=[]∨t.x∈([]:List (List UInt8)))
 ·have e:tk k [] (t::c)=.ok t (if k=0 then t::c else c):=if_pos hf
  rw[e] at h
  cases h
  rfl
 ·have e:tk k [] (t::c)=.bad t.p 80:=if_neg hf
  rw[e] at h
  cases h
theorem zT {t:ak} {c:List ak} (h:t.k=2):tk 2 [] (t::c)=.ok t c:=by
 have e:tk 2 [] (t::c)=.ok t (if (2:Int)=0 then t::c else c):=if_pos ⟨h,.inl rfl⟩
 rw[e]
 rfl
theorem Cg {w:World} {r:Nat} {c:List ak} {vt:Value} {B:Nat} (h:Rs w r c vt) (hB:B<=r) :
 Calls prog 138 #[.pointer (some ⟨r,0,none⟩)] w (aX (fun x c' v w'=>v=.agg (gV x).toArray/\Rs w' r c' vt) B [213] w (bK c)):=by
 obtain⟨t,c0,rfl⟩:=h.ended.some
 have hb0:Below w.heap.size w (w.alloc (.cells #[.string ⟨#[]⟩,.int .i64 0,.int .i64 0,.string ⟨#[]⟩,.int .i64 0] 234)):=ae Fy _
 have zb:=af.new w 234 #[.string ⟨#[]⟩,.int .i64 0,.int .i64 0,.string ⟨#[]⟩,.int .i64 0]
 have hpk:=qu (h.keep hb0)
 have hrl:=h.lt
 have HR0:=Fx (h.keep hb0)
 have HB0:=Fx hb0
 have ZB:=Fx zb
 have HPK:=Fx hpk
 clear h hb0 zb hpk
 by_cases hk:t.k=2
 ·have q1:(t.k == 2)=true:=by simpa using hk
  rw[rW (by simpa [kQ] using hk) (zT hk)]
  have HK:=Fx hk
  clear hk
  go_enter func138,ntmps138
  go_wp2_with fail
  refine HPK.out.mono ?_
  rintro e w1 ⟨rfl,hb1⟩
  have htk:=cN (B:=B) (Ts:=[213]) (HR0.out.keep (hb1.trans ((ae Fy (.cells #[.int .i64 t.k,.string ⟨t.x.toArray⟩,.int .i64 t.vk,.int .i64 t.vn,.string ⟨t.vt.toArray⟩,.int .i64 t.p] 122)).mono hb1.size))) 2 [] _ (eE _) hB (by simp)
  rw[zT HK.out] at htk
  have tb:=af.new w1 122 #[.int .i64 t.k,.string ⟨t.x.toArray⟩,.int .i64 t.vk,.int .i64 t.vn,.string ⟨t.vt.toArray⟩,.int .i64 t.p]
  have zb1:=(ZB.out.below hb1 (by simp)).alloc (.cells #[.int .i64 t.k,.string ⟨t.x.toArray⟩,.int .i64 t.vk,.int .i64 t.vn,.string ⟨t.vt.toArray⟩,.int .i64 t.p] 122)
  have hm1:=(HB0.out.trans (hb1.mono (by simp))).alloc (by have:=hb1.size;simp at this;omega) (.cells #[.int .i64 t.k,.string ⟨t.x.toArray⟩,.int .i64 t.vk,.int .i64 t.vn,.string ⟨t.vt.toArray⟩,.int .i64 t.p] 122)
  have HTK:=Fx htk
  have TB:=Fx tb
  have ZB1:=Fx zb1
  have HM1:=Fx hm1
  clear htk tb zb1 hm1 hb1
  unfold ak.v
  go_wp2_with fail
  refine HTK.out.mono ?_
  rintro e w2 ⟨v,rfl,⟨rfl,hr2⟩,hm2⟩
  have zb2:=ZB1.out.mt hm2 (by decide)
  have tb2:=TB.out.mt hm2 (by decide)
  have hlt:=zb2.lt
  have hlt2:=tb2.lt
  have t0:=tb2.cell 0
  have t1:=tb2.cell 1
  have t2:=tb2.cell 2
  have t3:=tb2.cell 3
  have t4:=tb2.cell 4
  have t5:=tb2.cell 5
  simp only[FF] at t0 t1 t2 t3 t4 t5
  have ZB2:=Fx zb2
  have HM2:=Fx ((MT.ofBelow (B:=B) (Ts:=[213]) HM1.out).trans hm2)
  have HR2:=Fx hr2
  clear zb2 tb2 hm2 hr2
  unfold ak.v
  go_wp2_with (refine ar rfl 234 _ _ rfl w.heap.size 234 _ _ rfl rfl ZB2.out (by kernel_rfl) rfl (by simp [Value.oneCell']) ?_)
  intro w3 hb3 hm3 hz3
  have r0:=hb3.cell 0
  have r1:=hb3.cell 1
  have r2:=hb3.cell 2
  have r3:=hb3.cell 3
  have r4:=hb3.cell 4
  simp only[FF] at r0 r1 r2 r3 r4
  have HM3:=Fx (HM2.out.own hm3 FA)
  have HR3:=Fx (HR2.out.mt (MT.ofMod (B:=0) (Ts:=[234]) hm3 ZB2.out (by simp) (Fz)) (by decide) (by decide))
  clear hb3 hm3 hz3
  go_wp2_with fail
  exact bodyPost_ret (v:=.agg #[.string ⟨#[]⟩,.int .i64 t.vk,.int .i64 t.vn,.string ⟨t.vt.toArray⟩,.int .i64 t.p]) (by simp [results,results138,go_sem, *]) rfl ⟨_,rfl,⟨rfl,HR3.out⟩,HM3.out⟩
 ·have q1:(t.k == 2)=false:=by simpa using hk
  have hlf:kQ (t::c0)=false:=by simpa [kQ] using hk
  clear hk
  cases h0:tk 1 [] (t::c0) with
  | bad a e0 =>
    rw[rp hlf h0]
    have H0:=Fx h0
    clear h0 hlf
    go_enter func138,ntmps138
    go_wp2_with fail
    refine HPK.out.mono ?_
    rintro e w1 ⟨rfl,hb1⟩
    have htk:=cN (B:=B) (Ts:=[213]) (HR0.out.keep (hb1.trans ((ae Fy (.cells #[.int .i64 t.k,.string ⟨t.x.toArray⟩,.int .i64 t.vk,.int .i64 t.vn,.string ⟨t.vt.toArray⟩,.int .i64 t.p] 122)).mono hb1.size))) 1 [] _ (eE _) hB (by simp)
    rw[H0.out] at htk
    have hm1:=(HB0.out.trans (hb1.mono (by simp))).alloc (by have:=hb1.size;simp at this;omega) (.cells #[.int .i64 t.k,.string ⟨t.x.toArray⟩,.int .i64 t.vk,.int .i64 t.vn,.string ⟨t.vt.toArray⟩,.int .i64 t.p] 122)
    have HTK:=Fx htk
    have HM1:=Fx hm1
    clear htk hm1 hb1
    unfold ak.v
    go_wp2_with fail
    refine HTK.out.mono ?_
    rintro e w2 ⟨rfl,hm2⟩
    have HM2:=Fx ((MT.ofBelow (B:=B) (Ts:=[213]) HM1.out).trans hm2)
    clear hm2
    go_wp2_with fail
    exact⟨rfl,az HM2.out⟩
  | ok u c1 =>
    rw[tJ hlf h0]
    obtain rfl:=De h0
    have H0:=Fx h0
    clear h0 hlf
    go_enter func138,ntmps138
    go_wp2_with fail
    refine HPK.out.mono ?_
    rintro e w1 ⟨rfl,hb1⟩
    have htk:=cN (B:=B) (Ts:=[213]) (HR0.out.keep (hb1.trans ((ae Fy (.cells #[.int .i64 u.k,.string ⟨u.x.toArray⟩,.int .i64 u.vk,.int .i64 u.vn,.string ⟨u.vt.toArray⟩,.int .i64 u.p] 122)).mono hb1.size))) 1 [] _ (eE _) hB (by simp)
    rw[H0.out] at htk
    have tb:=af.new w1 122 #[.int .i64 u.k,.string ⟨u.x.toArray⟩,.int .i64 u.vk,.int .i64 u.vn,.string ⟨u.vt.toArray⟩,.int .i64 u.p]
    have zb1:=(ZB.out.below hb1 (by simp)).alloc (.cells #[.int .i64 u.k,.string ⟨u.x.toArray⟩,.int .i64 u.vk,.int .i64 u.vn,.string ⟨u.vt.toArray⟩,.int .i64 u.p] 122)
    have hm1:=(HB0.out.trans (hb1.mono (by simp))).alloc (by have:=hb1.size;simp at this;omega) (.cells #[.int .i64 u.k,.string ⟨u.x.toArray⟩,.int .i64 u.vk,.int .i64 u.vn,.string ⟨u.vt.toArray⟩,.int .i64 u.p] 122)
    have HTK:=Fx htk
    have TB:=Fx tb
    have ZB1:=Fx zb1
    have HM1:=Fx hm1
    clear htk tb zb1 hm1 hb1
    unfold ak.v
    go_wp2_with fail
    refine HTK.out.mono ?_
    rintro e w2 ⟨v,rfl,⟨rfl,hr2⟩,hm2⟩
    have zb2:=ZB1.out.mt hm2 (by decide)
    have tb2:=TB.out.mt hm2 (by decide)
    have hlt:=zb2.lt
    have hlt2:=tb2.lt
    have t0:=tb2.cell 0
    have t1:=tb2.cell 1
    have t2:=tb2.cell 2
    have t3:=tb2.cell 3
    have t4:=tb2.cell 4
    have t5:=tb2.cell 5
    simp only[FF] at t0 t1 t2 t3 t4 t5
    have ZB2:=Fx zb2
    have HM2:=Fx ((MT.ofBelow (B:=B) (Ts:=[213]) HM1.out).trans hm2)
    have HR2:=Fx hr2
    clear zb2 tb2 hm2 hr2
    unfold ak.v
    go_wp2_with (refine ar rfl 234 _ _ rfl w.heap.size 234 _ _ rfl rfl ZB2.out (by kernel_rfl) rfl (by simp [Value.oneCell']) ?_)
    intro w3 hb3 hm3 hz3
    have r0:=hb3.cell 0
    have r1:=hb3.cell 1
    have r2:=hb3.cell 2
    have r3:=hb3.cell 3
    have r4:=hb3.cell 4
    simp only[FF] at r0 r1 r2 r3 r4
    have HM3:=Fx (HM2.out.own hm3 FA)
    have HR3:=Fx (HR2.out.mt (MT.ofMod (B:=0) (Ts:=[234]) hm3 ZB2.out (by simp) (Fz)) (by decide) (by decide))
    clear hb3 hm3 hz3
    go_wp2_with fail
    exact bodyPost_ret (v:=.agg #[.string ⟨u.x.toArray⟩,.int .i64 0,.int .i64 0,.string ⟨#[]⟩,.int .i64 u.p]) (by simp [results,results138,go_sem, *]) rfl ⟨_,rfl,⟨rfl,HR3.out⟩,HM3.out⟩
def dD (w:World) (b r:Nat):Prop:=af w b 118 #[.pointer (some ⟨r,0,none⟩)]
theorem rT {w:World} {b r:Nat} {c:List ak} {vt:Value} {B:Nat} (hi:dD w b r) (h:Rs w r c vt) (hB:B<=r) :
 Calls prog 132 #[.pointer (some ⟨b,0,none⟩)] w (aX (fun x c' v w'=>v=.agg (dw x).toArray/\dD w' b r/\Rs w' r c' vt) B [213] w (aY c)):=by
 have hb0:Below w.heap.size w (w.alloc (.cells #[.string ⟨#[]⟩,.int .i64 0] 221)):=ae Fy _
 have hnm:=iI (B:=B) (h.keep hb0) hB
 have zb:=af.new w 221 #[.string ⟨#[]⟩,.int .i64 0]
 have hi1:dD (w.alloc (.cells #[.string ⟨#[]⟩,.int .i64 0] 221)) b r:=af.alloc hi _
 have x0:=af.cell hi 0
 have hbl:=af.lt hi
 simp at x0
 have HI1:=Fx hi1
 have HB0:=Fx hb0
 have ZB:=Fx zb
 clear h hb0 zb hi hi1
 cases h0:aY c with
 | bad a e =>
   rw[h0] at hnm
   have HNM:=Fx hnm
   clear h0 hnm
   go_enter func132,ntmps132
   go_wp2_with fail
   refine HNM.out.mono ?_
   rintro e w1 ⟨rfl,hm⟩
   have HM:=Fx hm
   clear hm
   go_wp2_with fail
   exact⟨rfl,az ((MT.ofBelow HB0.out).trans HM.out)⟩
 | ok x c1 =>
   rw[h0] at hnm
   have HNM:=Fx hnm
   clear h0 hnm
   go_enter func132,ntmps132
   go_wp2_with fail
   refine HNM.out.mono ?_
   rintro e w1 ⟨v,rfl,⟨rfl,hr1⟩,hm⟩
   have zb1:=ZB.out.mt hm (by decide)
   have hi2:dD w1 b r:=af.mt HI1.out hm (by decide)
   have hlt:=zb1.lt
   have ZB1:=Fx zb1
   have HI2:=Fx hi2
   have HM:=Fx hm
   have HR1:=Fx hr1
   clear zb1 hm hr1 hi2
   unfold dw
   go_wp2_with (refine ar rfl 221 _ _ rfl w.heap.size 221 _ _ rfl rfl ZB1.out (by kernel_rfl) rfl (by simp [Value.oneCell']) ?_)
   intro w2 hb2 hm2 hz2
   have r0:=hb2.cell 0
   have r1:=hb2.cell 1
   simp only[FF] at r0 r1
   have mt2:MT 0 [221] w1 w2:=MT.ofMod hm2 ZB1.out (by simp) (Fz)
   have HM2:=Fx (((MT.ofBelow HB0.out).trans HM.out).own hm2 FA)
   have HR2:=Fx (HR1.out.mt mt2 (by decide) (by decide))
   have HI3:=Fx (show dD w2 b r from af.mt HI2.out mt2 (by decide))
   clear hb2 hm2 hz2 mt2
   go_wp2_with fail
   exact bodyPost_ret (v:=.agg #[.string ⟨x.1.toArray⟩,.int .i64 x.2]) (by simp [results,results132,go_sem, *]) rfl ⟨_,rfl,⟨rfl,HI3.out,HR2.out⟩,HM2.out⟩
theorem sI {w:World} {b r:Nat} {c:List ak} {vt:Value} {B:Nat} (hi:dD w b r) (h:Rs w r c vt) (hB:B<=r) :
 Calls prog 137 #[.pointer (some ⟨b,0,none⟩)] w (aX (fun x c' v w'=>v=.agg (gV x).toArray/\dD w' b r/\Rs w' r c' vt) B [213] w (bK c)):=by
 have hb0:Below w.heap.size w (w.alloc (.cells #[.string ⟨#[]⟩,.int .i64 0,.int .i64 0,.string ⟨#[]⟩,.int .i64 0] 234)):=ae Fy _
 have hnm:=Cg (B:=B) (h.keep hb0) hB
 have zb:=af.new w 234 #[.string ⟨#[]⟩,.int .i64 0,.int .i64 0,.string ⟨#[]⟩,.int .i64 0]
 have hi1:dD (w.alloc (.cells #[.string ⟨#[]⟩,.int .i64 0,.int .i64 0,.string ⟨#[]⟩,.int .i64 0] 234)) b r:=af.alloc hi _
 have x0:=af.cell hi 0
 have hbl:=af.lt hi
 simp at x0
 have HI1:=Fx hi1
 have HB0:=Fx hb0
 have ZB:=Fx zb
 clear h hb0 zb hi hi1
 cases h0:bK c with
 | bad a e =>
   rw[h0] at hnm
   have HNM:=Fx hnm
   clear h0 hnm
   go_enter func137,ntmps137
   go_wp2_with fail
   refine HNM.out.mono ?_
   rintro e w1 ⟨rfl,hm⟩
   have HM:=Fx hm
   clear hm
   go_wp2_with fail
   exact⟨rfl,az ((MT.ofBelow HB0.out).trans HM.out)⟩
 | ok x c1 =>
   rw[h0] at hnm
   have HNM:=Fx hnm
   clear h0 hnm
   go_enter func137,ntmps137
   go_wp2_with fail
   refine HNM.out.mono ?_
   rintro e w1 ⟨v,rfl,⟨rfl,hr1⟩,hm⟩
   have zb1:=ZB.out.mt hm (by decide)
   have hi2:dD w1 b r:=af.mt HI1.out hm (by decide)
   have hlt:=zb1.lt
   have ZB1:=Fx zb1
   have HI2:=Fx hi2
   have HM:=Fx hm
   have HR1:=Fx hr1
   clear zb1 hm hr1 hi2
   unfold gV
   go_wp2_with (refine ar rfl 234 _ _ rfl w.heap.size 234 _ _ rfl rfl ZB1.out (by kernel_rfl) rfl (by simp [Value.oneCell']) ?_)
   intro w2 hb2 hm2 hz2
   have r0:=hb2.cell 0
   have r1:=hb2.cell 1
   have r2:=hb2.cell 2
   have r3:=hb2.cell 3
   have r4:=hb2.cell 4
   simp only[FF] at r0 r1 r2 r3 r4
   have mt2:MT 0 [234] w1 w2:=MT.ofMod hm2 ZB1.out (by simp) (Fz)
   have HM2:=Fx (((MT.ofBelow HB0.out).trans HM.out).own hm2 FA)
   have HR2:=Fx (HR1.out.mt mt2 (by decide) (by decide))
   have HI3:=Fx (show dD w2 b r from af.mt HI2.out mt2 (by decide))
   clear hb2 hm2 hz2 mt2
   go_wp2_with fail
   exact bodyPost_ret (v:=.agg #[.string ⟨x.1.x.toArray⟩,.int .i64 x.1.k,.int .i64 x.1.n,.string ⟨x.1.t.toArray⟩,.int .i64 x.2]) (by simp [results,results137,go_sem, *]) rfl ⟨_,rfl,⟨rfl,HI3.out,HR2.out⟩,HM2.out⟩
theorem mV {α:Type} {f:α->List Value} {sz:Nat} {w:World}:∀ {css:List (List Value)} {xs:List α},aH (jE sz (fun _ cs x=>cs=f x) w) css xs->css.flatten=xs.flatMap f
 | [],[],_=>rfl
 | c::css,x::xs,h=>by
   have h1:=mV h.2
   have h2:=h.1.2.2
   simp only[List.flatten_cons,List.flatMap_cons,h1,h2]
 | [],_::_,h=>h.elim
 | _::_,[],h=>h.elim
theorem dD.mt {w w':World} {b r B:Nat} {Ts:List TypeId} (h:dD w b r) (hm:MT B Ts w w') (ht:118 ∉ Ts):dD w' b r:=af.mt h hm ht
theorem yY {w:World} {b r:Nat} {c:List ak} {vt:Value} {B:Nat} (hi:dD w b r) (h:Rs w r c vt) (hB:B<=r) (hw:B<=w.heap.size) :
 Calls prog 131 #[.pointer (some ⟨r,0,none⟩),.func (.func 132) #[] #[.pointer (some ⟨b,0,none⟩)]] w
  (aX (fun xs c' v w'=>w'.ownsRow w.heap.size 221 2 v xs.length (xs.flatMap dw)/\dD w' b r/\Rs w' r c' vt) B [213] w (aJ aY c)):=by
 refine (Dm aY (fun _ cs x=>cs=dw x) (fun w _=>dD w b r) B [213] r vt #[.pointer (some ⟨b,0,none⟩)] dH hB (by simp) (by decide) (fun w w' xs hm hj=>hj.mt hm (by decide)) (fun _ _ _ _ _ h=>h) ?_ w c h hi hw).mono ?_
 ·intro w xs c hw hj hr
  refine (rT hj hr hB).mono fun e w' hp=>hp.mono fun x c' v w' hh=>?_
  obtain⟨rfl,h2,h3⟩:=hh
  exact⟨dw x,rfl,⟨rfl,by simp [dw,Value.oneCell'],rfl⟩,h2,h3⟩
 ·intro e w' hp
  refine hp.mono fun xs c' v w' hh=>?_
  obtain⟨css,h1,h2,h3,h4⟩:=hh
  rw[mV h2] at h1
  exact⟨h1,h3,h4⟩
theorem eU {w:World} {b r:Nat} {c:List ak} {vt:Value} {B:Nat} (hi:dD w b r) (h:Rs w r c vt) (hB:B<=r) (hw:B<=w.heap.size) :
 Calls prog 136 #[.pointer (some ⟨r,0,none⟩),.func (.func 137) #[] #[.pointer (some ⟨b,0,none⟩)]] w
  (aX (fun xs c' v w'=>w'.ownsRow w.heap.size 234 5 v xs.length (xs.flatMap gV)/\dD w' b r/\Rs w' r c' vt) B [213] w (aJ bK c)):=by
 refine (Dn bK (fun _ cs x=>cs=gV x) (fun w _=>dD w b r) B [213] r vt #[.pointer (some ⟨b,0,none⟩)] gn hB (by simp) (by decide) (fun w w' xs hm hj=>hj.mt hm (by decide)) (fun _ _ _ _ _ h=>h) ?_ w c h hi hw).mono ?_
 ·intro w xs c hw hj hr
  refine (sI hj hr hB).mono fun e w' hp=>hp.mono fun x c' v w' hh=>?_
  obtain⟨rfl,h2,h3⟩:=hh
  exact⟨gV x,rfl,⟨rfl,by simp [gV,Value.oneCell'],rfl⟩,h2,h3⟩
 ·intro e w' hp
  refine hp.mono fun xs c' v w' hh=>?_
  obtain⟨css,h1,h2,h3,h4⟩:=hh
  rw[mV h2] at h1
  exact⟨h1,h3,h4⟩
