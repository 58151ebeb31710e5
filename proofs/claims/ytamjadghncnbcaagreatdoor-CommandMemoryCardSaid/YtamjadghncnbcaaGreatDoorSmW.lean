/- reader.Some, reader.List at osier/query.placed of string, walked (printed by lst.py). reader.Some, reader.List at osier/query.placed of osier/api.Term, walked (printed by lst.py). reader.Some at osier/query.atomAt, walked (printed by lst.py). -/
import Derived.Test.YtamjadghncnbcaaGreatDoorGaW
namespace Go.Proofs.YtamjadghncnbcaaGreatDoor
open Go.RowKit
set_option linter.unusedVariables false
theorem Tryz.info_Nm:(Tryz.prog.info? 135).map (fun i=>(i.zero,i.size,i.bytes))=some (some (.agg #[.string ⟨#[]⟩,.int .i64 0]),2,24):=by kernel_rfl
set_option maxHeartbeats 16000000 in
set_option maxRecDepth 100000 in
theorem some_Nm {α:Type} (P:List Tok->PR α) (El:World->List Value->α->Prop) (J:World->List α->Prop) (B:Nat) (Ts:List TypeId) (r:Nat) (vt:Value) (lb:Array Value)
 (hP:Less P) (hB:B<=r) (hR:177∈Ts) (hT:135 ∉ Ts)
 (hJ:∀ (w w':World) (xs:List α),MT B [135,177] w w'->J w xs->J w' xs)
 (hE:∀ (w w':World) (cs:List Value) (x:α),MT B (135::Ts) w w'->El w cs x->El w' cs x)
 (hone:∀ (w:World) (xs:List α) (c:List Tok),B<=w.heap.size->J w xs->Rs w r c vt->Calls Tryz.prog 83 lb w (PPost (fun x c' v w'=>OneR 2 El J r vt xs x c' v w') B Ts w (P c)))
 (w:World) (c:List Tok) (hc:Rs w r c vt) (hj:J w []) (hw:B<=w.heap.size) :
 Calls Tryz.prog 145 #[.pointer (some ⟨r,0,none⟩),.func (.func 83) #[] lb] w (PPost (fun xs c' v w'=>ListR w.heap.size 135 2 El J r vt xs c' v w') B Ts w (someP P c)):=by
 obtain⟨i0,hi0,hz0,hz1,hz2⟩:=info_parts Tryz.info_Nm
 have hlen:=hc.len
 have HONE:=Lib.hid hone
 have HJ:=Lib.hid hJ
 have HE:=Lib.hid hE
 have hone0:=hone w [] c hw hj hc
 have hTR:135 ∉ [177]:=by decide
 clear hone hJ hE hj hc
 cases hp:P c with
 | bad a e =>
   rw[hp] at hone0
   rw[some_bad hp]
   have HO:=Lib.hid hone0
   clear hp hone0
   go_enter Tryz.func145,Tryz.ntmps145
   go_wp2_with fail
   refine HO.out.mono ?_
   rintro e' w1 ⟨rfl,hm⟩
   have HM:=Lib.hid hm
   clear hm
   go_wp2_with fail
   exact⟨rfl,ppost_bad HM.out⟩
 | ok x c1 =>
   rw[hp] at hone0
   rw[some_ok hp]
   have HO:=Lib.hid hone0
   have hl1:=hP _ _ _ hp
   clear hp hone0
   have HRES:Hid (restP P [x] c1=restP P [x] c1):=Lib.hid rfl
   generalize hres:restP P [x] c1=RES at HRES ⊢
   clear HRES
   have HRS:=Lib.hid hres
   clear hres
   go_enter Tryz.func145,Tryz.ntmps145
   go_wp2_with fail
   refine HO.out.mono ?_
   rintro e' w1 ⟨v,rfl,⟨cs,rfl,⟨hl,h1,he⟩,hj1,hr1⟩,hm⟩
   obtain⟨e0,e1,rfl⟩:=len2 hl
   have hsz1:=hm.size
   have hal:MT B [135,177] w1 (w1.alloc (.cells #[e0,e1] 135)):=(MT.refl w1).alloc _
   have HJ1:=Lib.hid (HJ.out _ _ _ hal hj1)
   have HM1:=Lib.hid (hm.alloc (.cells #[e0,e1] 135))
   have HE1:=Lib.hid (show ElOk 2 El (w1.alloc (.cells #[e0,e1] 135)) [e0,e1] x from ⟨hl,h1,HE.out _ _ _ _ ((MT.refl w1).alloc _) he⟩)
   have HR1:=Lib.hid (hr1.keep (balloc (Below.refl _ _) (.cells #[e0,e1] 135)))
   have HO1:=Lib.hid (World.ownsRow_lit (base:=w.heap.size) (e:=135) (size:=2) w1 #[e0,e1] 1 hsz1 (by unfold maxLen;omega) rfl)
   clear hl h1 he hj1 hr1 hm hal HO
   go_wp2_with fail
   go_loopw [5] (fun v wr=>∃ (ys:List α) (css:List (List Value)) (cc:List Tok) (ad:Option Addr) (cap:Nat),v=.slice ad ys.length cap/\Hid (wr.ownsRow w.heap.size 135 2 (.slice ad ys.length cap) ys.length css.flatten)/\Hid (All2 (ElOk 2 El wr) css ys)/\Hid (J wr ys)/\Hid (Rs wr r cc vt)/\Hid (MT B Ts w wr)/\Hid (restP P ys cc=RES)/\ys.length+cc.length<=200000) (fun v _=>200000 - (match v with | .slice _ n _=>n | _=>0))
   case atStart=>exact⟨[x],[[e0,e1]],c1,some ⟨w1.heap.size,0,none⟩,1,rfl,HO1,Lib.hid ⟨HE1.out,trivial⟩,HJ1,HR1,HM1,HRS,by simp;omega⟩
   case round =>
    obtain⟨ys,css,cc,ad,cap,rfl,OW,AL,JW,RW,MW,RE,hbd⟩:=hrel
    have HIS:=Lib.hid (is_rs RW.out [44])
    cases him:isM [44] cc with
    | false =>
      have hre:=RE.out
      rw[restP_end ys him] at hre
      rw[him] at HIS
      subst hre
      clear him
      go_wp2_with fail
      refine HIS.out.mono ?_
      rintro e2 w2 ⟨rfl,hb2⟩
      have HB2:=Lib.hid hb2
      clear hb2
      go_wp2_with fail
      go_ret
      refine⟨_,rfl,⟨css,(Mod.ofBelow (F:=fun _=>False) HB2.out).ownsRow OW.out (fun _ _ f=>f),AL.out.mono (fun b a h=>⟨h.1,h.2.1,HE.out _ _ _ _ (MT.ofBelow HB2.out) h.2.2⟩),HJ.out _ _ _ (MT.ofBelow HB2.out) JW.out,RW.out.keep HB2.out⟩,MW.out.plusBelow HB2.out⟩
    | true =>
      obtain⟨t,htk⟩:=isM_tk him
      have hne:1<=cc.length:=by
       cases cc with
       | nil=>simp [isM] at him
       | cons _ _=>simp
      have hdl:(cc.drop 1).length=cc.length - 1:=List.length_drop ..
      rw[him] at HIS
      have HIM:=Lib.hid him
      have HTK:=Lib.hid htk
      clear him htk
      go_wp2_with fail
      refine HIS.out.mono ?_
      rintro e2 w2 ⟨rfl,hb2⟩
      have HMK:=Lib.hid (mark_rs (B:=B) (Ts:=[177]) (RW.out.keep hb2) [44] hB (by simp))
      rw[HTK.out] at HMK
      have HB2:=Lib.hid hb2
      clear hb2
      go_wp2_with fail
      refine HMK.out.mono ?_
      rintro e3 w3 ⟨v3,rfl,⟨rfl,hr3⟩,hm3⟩
      have m03:MT B [177] wr w3:=(MT.ofBelow HB2.out).trans hm3
      have hB3:B<=w3.heap.size:=by have:=MW.out.size;have:=m03.size;omega
      have hone3:=HONE.out w3 ys (cc.drop 1) hB3 (HJ.out _ _ _ (m03.wide (by simp)) JW.out) hr3
      have M03:=Lib.hid m03
      have toTs:∀ t∈[177],t∈Ts:=fun t ht=>by simp at ht;subst ht;exact hR
      have TOTS:=Lib.hid toTs
      clear hr3 hm3 m03 toTs
      unfold Tok.v
      cases hp:P (cc.drop 1) with
      | bad a e =>
        rw[hp] at hone3
        have hre:=RE.out
        rw[restP_bad ys HIM.out hp] at hre
        subst hre
        have HO3:=Lib.hid hone3
        clear hp hone3
        go_wp2_with fail
        refine HO3.out.mono ?_
        rintro e4 w4 ⟨rfl,hm4⟩
        have HM4:=Lib.hid hm4
        clear hm4
        go_wp2_with fail
        exact⟨rfl,ppost_bad ((MW.out.trans (M03.out.wide TOTS.out)).trans HM4.out)⟩
      | ok x c4 =>
        rw[hp] at hone3
        have hre:=restP_ok hP ys HIM.out hp
        have hl4:=hP _ _ _ hp
        have hrq:=hre.1
        rw[RE.out] at hrq
        have HRE:=Lib.hid hrq.symm
        have HO3:=Lib.hid hone3
        clear hp hone3 hre hrq
        go_wp2_with fail
        refine HO3.out.mono ?_
        rintro e4 w4 ⟨v4,rfl,⟨cs4,rfl,⟨hl,h1,he⟩,hj4,hr4⟩,hm4⟩
        obtain⟨e0,e1,rfl⟩:=len2 hl
        have m04:MT B Ts wr w4:=(M03.out.wide TOTS.out).trans hm4
        have HO4:=Lib.hid (m04.ownsRow OW.out hT)
        have HW4:=Lib.hid (MW.out.trans m04)
        have hsz4:=HW4.out.size
        have M04:=Lib.hid m04
        have H1:=Lib.hid h1
        have HEL:=Lib.hid he
        have HJ4:=Lib.hid hj4
        have HR4:=Lib.hid hr4
        clear hl h1 he hj4 hr4 hm4 m04
        go_wp2_with (at_builtin;refine wpList_append_lies _ rfl (.tmp 13) (.tmp 16) 137 rfl w.heap.size 135 i0 (.agg #[.string ⟨#[]⟩,.int .i64 0]) 2 24 Tryz.underlying137 hi0 hz0 hz1 hz2 rfl (by decide) (.slice ad ys.length cap) ys.length _ rfl (HO4.out.alloc _) ⟨_,0,none⟩ 1 1 [e0,e1] rfl rfl (World.news_of_block (Blk.new _ _ _)) H1.out (by decide) ?c3 ?c5 ?c4 _ rfl ?_)
        case c3=>unfold maxLen;omega
        case c5=>omega
        case c4=>simp;omega
        intro g cap1 w5 hown2 hgrow2 hat2 hlt2
        have m45:MT B [135] w4 w5:=((MT.refl w4).alloc _).grown hgrow2 (HO4.out.alloc _) (by simp) hw
        have mall:MT B (135::Ts) wr w5:=(M04.out.wide (fun _ h=>List.mem_cons_of_mem _ h)).trans (m45.wide (by simp))
        have HO5:=Lib.hid hown2
        have MALL:=Lib.hid mall
        have M45:=Lib.hid m45
        have HG:=Lib.hid hgrow2
        clear hown2 hgrow2 hat2 hlt2 m45 mall
        go_wp2_with fail
        go_roundw
        case rel =>
         refine⟨ys++[x],css++[[e0,e1]],c4,some ⟨g,0,none⟩,cap1,by simp,Lib.hid ?_,Lib.hid ?_,Lib.hid (HJ.out _ _ _ (M45.out.wide (by simp)) HJ4.out),Lib.hid (HR4.out.mt M45.out (by decide) (by decide)),Lib.hid ?_,HRE,by simp;omega⟩
         ·have:=HO5.out
          simpa [List.flatten_append] using this
         ·exact (AL.out.mono (fun b a h=>⟨h.1,h.2.1,HE.out _ _ _ _ MALL.out h.2.2⟩)).snoc ⟨rfl,H1.out,HE.out _ _ _ _ (M45.out.wide (by simp)) HEL.out⟩
         ·exact Mod.grown (HW4.out.alloc _) HG.out (fun k hk hlt=>by have:=(HO4.out.lt k hk).1;omega)
        case measure=>simp;omega
set_option maxHeartbeats 16000000 in
set_option maxRecDepth 100000 in
theorem list_Nm {α:Type} (P:List Tok->PR α) (El:World->List Value->α->Prop) (J:World->List α->Prop) (B:Nat) (Ts:List TypeId) (r:Nat) (vt:Value) (lb:Array Value)
 (hP:Less P) (hB:B<=r) (hR:177∈Ts) (hT:135 ∉ Ts)
 (hJ:∀ (w w':World) (xs:List α),MT B [135,177] w w'->J w xs->J w' xs)
 (hE:∀ (w w':World) (cs:List Value) (x:α),MT B (135::Ts) w w'->El w cs x->El w' cs x)
 (hone:∀ (w:World) (xs:List α) (c:List Tok),B<=w.heap.size->J w xs->Rs w r c vt->Calls Tryz.prog 83 lb w (PPost (fun x c' v w'=>OneR 2 El J r vt xs x c' v w') B Ts w (P c)))
 (w:World) (c:List Tok) (hc:Rs w r c vt) (hj:J w []) (hw:B<=w.heap.size) :
 Calls Tryz.prog 82 #[.pointer (some ⟨r,0,none⟩),.func (.func 83) #[] lb] w (PPost (fun xs c' v w'=>ListR w.heap.size 135 2 El J r vt xs c' v w') B Ts w (listP P c)):=by
 have HSOME:=Lib.hid (fun W C=>some_Nm P El J B Ts r vt lb hP hB hR hT hJ hE hone W C)
 have HJ:=Lib.hid hJ
 have HE:=Lib.hid hE
 have hmk:=mark_rs (B:=B) (Ts:=[177]) hc [40] hB (by simp)
 have HJW:=Lib.hid hj
 have toTs:∀ t∈[177],t∈Ts:=fun t ht=>by simp at ht;subst ht;exact hR
 have TOTS:=Lib.hid toTs
 clear hone hJ hE hj hc toTs
 cases h0:tk 3 [[40]] c with
 | bad a e =>
   rw[h0] at hmk
   rw[list_bad0 h0]
   have HMK:=Lib.hid hmk
   clear hmk h0
   go_enter Tryz.func82,Tryz.ntmps82
   go_wp2_with fail
   refine HMK.out.mono ?_
   rintro e1 w1 ⟨rfl,hm⟩
   have HM:=Lib.hid hm
   clear hm
   go_wp2_with fail
   exact⟨rfl,ppost_bad (HM.out.wide TOTS.out)⟩
 | ok t c1 =>
   rw[h0] at hmk
   have H0:=Lib.hid h0
   have HMK:=Lib.hid hmk
   clear hmk h0
   cases him:isM [41] c1 with
   | true =>
     rw[list_none H0.out him]
     obtain⟨u,hu⟩:=isM_tk him
     have HIM:=Lib.hid him
     have HU:=Lib.hid hu
     clear him hu
     go_enter Tryz.func82,Tryz.ntmps82
     go_wp2_with fail
     refine HMK.out.mono ?_
     rintro e1 w1 ⟨v1,rfl,⟨rfl,hr1⟩,hm⟩
     have HM:=Lib.hid hm
     have HR1:=Lib.hid hr1
     have his:=is_rs hr1 [41]
     rw[HIM.out] at his
     have HIS:=Lib.hid his
     clear hm hr1 his
     unfold Tok.v
     go_wp2_with fail
     refine HIS.out.mono ?_
     rintro e2 w2 ⟨rfl,hb2⟩
     have hmk2:=mark_rs (B:=B) (Ts:=[177]) (HR1.out.keep hb2) [41] hB (by simp)
     rw[HU.out] at hmk2
     have HMK2:=Lib.hid hmk2
     have HB2:=Lib.hid hb2
     clear hb2 hmk2
     go_wp2_with fail
     refine HMK2.out.mono ?_
     rintro e3 w3 ⟨v3,rfl,⟨rfl,hr3⟩,hm3⟩
     have m3:MT B [177] w w3:=(HM.out.plusBelow HB2.out).trans hm3
     have M3:=Lib.hid m3
     have HR3:=Lib.hid hr3
     clear hr3 hm3 m3
     unfold Tok.v
     go_wp2_with fail
     go_ret
     exact⟨_,rfl,⟨[],World.ownsRow_nil _ _ _ _,trivial,HJ.out _ _ _ (M3.out.wide (by simp)) HJW.out,HR3.out⟩,M3.out.wide TOTS.out⟩
   | false =>
     have HIM:=Lib.hid him
     clear him
     cases hs:someP P c1 with
     | bad a e =>
       rw[list_bad1 H0.out HIM.out hs]
       have HS:=Lib.hid hs
       clear hs
       go_enter Tryz.func82,Tryz.ntmps82
       go_wp2_with fail
       refine HMK.out.mono ?_
       rintro e1 w1 ⟨v1,rfl,⟨rfl,hr1⟩,hm⟩
       have HM:=Lib.hid hm
       have HR1:=Lib.hid hr1
       have his:=is_rs hr1 [41]
       rw[HIM.out] at his
       have HIS:=Lib.hid his
       clear hm hr1 his
       unfold Tok.v
       go_wp2_with fail
       refine HIS.out.mono ?_
       rintro e2 w2 ⟨rfl,hb2⟩
       have m2:MT B [177] w w2:=HM.out.plusBelow hb2
       have hso:=HSOME.out w2 c1 (HR1.out.keep hb2) (HJ.out _ _ _ (m2.wide (by simp)) HJW.out) (by have:=m2.size;omega)
       rw[HS.out] at hso
       have HSO:=Lib.hid hso
       have M2:=Lib.hid m2
       clear hso m2 hb2
       go_wp2_with fail
       refine HSO.out.mono ?_
       rintro e3 w3 ⟨rfl,hm3⟩
       have HM3:=Lib.hid hm3
       clear hm3
       go_wp2_with fail
       exact⟨rfl,ppost_bad ((M2.out.wide TOTS.out).trans HM3.out)⟩
     | ok xs c2 =>
       cases h4:tk 3 [[41]] c2 with
       | bad a e =>
         rw[list_bad2 H0.out HIM.out hs h4]
         have HS:=Lib.hid hs
         have H4:=Lib.hid h4
         clear hs h4
         go_enter Tryz.func82,Tryz.ntmps82
         go_wp2_with fail
         refine HMK.out.mono ?_
         rintro e1 w1 ⟨v1,rfl,⟨rfl,hr1⟩,hm⟩
         have HM:=Lib.hid hm
         have HR1:=Lib.hid hr1
         have his:=is_rs hr1 [41]
         rw[HIM.out] at his
         have HIS:=Lib.hid his
         clear hm hr1 his
         unfold Tok.v
         go_wp2_with fail
         refine HIS.out.mono ?_
         rintro e2 w2 ⟨rfl,hb2⟩
         have m2:MT B [177] w w2:=HM.out.plusBelow hb2
         have hso:=HSOME.out w2 c1 (HR1.out.keep hb2) (HJ.out _ _ _ (m2.wide (by simp)) HJW.out) (by have:=m2.size;omega)
         rw[HS.out] at hso
         have HSO:=Lib.hid hso
         have M2:=Lib.hid m2
         clear hso m2 hb2
         go_wp2_with fail
         refine HSO.out.mono ?_
         rintro e3 w3 ⟨v3,rfl,⟨css,hown,hal,hj3,hr3⟩,hm3⟩
         obtain⟨ad,cap,rfl⟩:=own_sl hown
         have hmk3:=mark_rs (B:=B) (Ts:=[177]) hr3 [41] hB (by simp)
         rw[H4.out] at hmk3
         have hl2:=M2.out.size
         have HOWN:=Lib.hid (World.ownsRow.low hown hl2)
         have HAL:=Lib.hid hal
         have HJ3:=Lib.hid hj3
         have HM3:=Lib.hid ((M2.out.wide TOTS.out).trans hm3)
         have HMK3:=Lib.hid hmk3
         clear hown hal hj3 hm3 hr3 hmk3
         go_wp2_with fail
         refine HMK3.out.mono ?_
         rintro e4 w4 ⟨rfl,hm4⟩
         have HM4:=Lib.hid hm4
         clear hm4
         go_wp2_with fail
         exact⟨rfl,ppost_bad (HM3.out.trans (HM4.out.wide TOTS.out))⟩
       | ok u c3 =>
         rw[list_ok H0.out HIM.out hs h4]
         have HS:=Lib.hid hs
         have H4:=Lib.hid h4
         clear hs h4
         go_enter Tryz.func82,Tryz.ntmps82
         go_wp2_with fail
         refine HMK.out.mono ?_
         rintro e1 w1 ⟨v1,rfl,⟨rfl,hr1⟩,hm⟩
         have HM:=Lib.hid hm
         have HR1:=Lib.hid hr1
         have his:=is_rs hr1 [41]
         rw[HIM.out] at his
         have HIS:=Lib.hid his
         clear hm hr1 his
         unfold Tok.v
         go_wp2_with fail
         refine HIS.out.mono ?_
         rintro e2 w2 ⟨rfl,hb2⟩
         have m2:MT B [177] w w2:=HM.out.plusBelow hb2
         have hso:=HSOME.out w2 c1 (HR1.out.keep hb2) (HJ.out _ _ _ (m2.wide (by simp)) HJW.out) (by have:=m2.size;omega)
         rw[HS.out] at hso
         have HSO:=Lib.hid hso
         have M2:=Lib.hid m2
         clear hso m2 hb2
         go_wp2_with fail
         refine HSO.out.mono ?_
         rintro e3 w3 ⟨v3,rfl,⟨css,hown,hal,hj3,hr3⟩,hm3⟩
         obtain⟨ad,cap,rfl⟩:=own_sl hown
         have hmk3:=mark_rs (B:=B) (Ts:=[177]) hr3 [41] hB (by simp)
         rw[H4.out] at hmk3
         have hl2:=M2.out.size
         have HOWN:=Lib.hid (World.ownsRow.low hown hl2)
         have HAL:=Lib.hid hal
         have HJ3:=Lib.hid hj3
         have HM3:=Lib.hid ((M2.out.wide TOTS.out).trans hm3)
         have HMK3:=Lib.hid hmk3
         clear hown hal hj3 hm3 hr3 hmk3
         go_wp2_with fail
         refine HMK3.out.mono ?_
         rintro e4 w4 ⟨v4,rfl,⟨rfl,hr4⟩,hm4⟩
         have HM4:=Lib.hid hm4
         have HR4:=Lib.hid hr4
         clear hm4 hr4
         unfold Tok.v
         go_wp2_with fail
         go_ret
         exact⟨_,rfl,⟨css,HM4.out.ownsRow HOWN.out (by decide),HAL.out.mono (fun b a h=>⟨h.1,h.2.1,HE.out _ _ _ _ ((HM4.out.wide TOTS.out).wide (fun _ h=>List.mem_cons_of_mem _ h)) h.2.2⟩),HJ.out _ _ _ (HM4.out.wide (by simp)) HJ3.out,HR4.out⟩,HM3.out.trans (HM4.out.wide TOTS.out)⟩
theorem Tryz.info_Tm:(Tryz.prog.info? 148).map (fun i=>(i.zero,i.size,i.bytes))=some (some (.agg #[.string ⟨#[]⟩,.int .i64 0,.int .i64 0,.string ⟨#[]⟩,.int .i64 0]),5,56):=by kernel_rfl
set_option maxHeartbeats 16000000 in
set_option maxRecDepth 100000 in
theorem some_Tm {α:Type} (P:List Tok->PR α) (El:World->List Value->α->Prop) (J:World->List α->Prop) (B:Nat) (Ts:List TypeId) (r:Nat) (vt:Value) (lb:Array Value)
 (hP:Less P) (hB:B<=r) (hR:177∈Ts) (hT:148 ∉ Ts)
 (hJ:∀ (w w':World) (xs:List α),MT B [148,177] w w'->J w xs->J w' xs)
 (hE:∀ (w w':World) (cs:List Value) (x:α),MT B (148::Ts) w w'->El w cs x->El w' cs x)
 (hone:∀ (w:World) (xs:List α) (c:List Tok),B<=w.heap.size->J w xs->Rs w r c vt->Calls Tryz.prog 88 lb w (PPost (fun x c' v w'=>OneR 5 El J r vt xs x c' v w') B Ts w (P c)))
 (w:World) (c:List Tok) (hc:Rs w r c vt) (hj:J w []) (hw:B<=w.heap.size) :
 Calls Tryz.prog 146 #[.pointer (some ⟨r,0,none⟩),.func (.func 88) #[] lb] w (PPost (fun xs c' v w'=>ListR w.heap.size 148 5 El J r vt xs c' v w') B Ts w (someP P c)):=by
 obtain⟨i0,hi0,hz0,hz1,hz2⟩:=info_parts Tryz.info_Tm
 have hlen:=hc.len
 have HONE:=Lib.hid hone
 have HJ:=Lib.hid hJ
 have HE:=Lib.hid hE
 have hone0:=hone w [] c hw hj hc
 have hTR:148 ∉ [177]:=by decide
 clear hone hJ hE hj hc
 cases hp:P c with
 | bad a e =>
   rw[hp] at hone0
   rw[some_bad hp]
   have HO:=Lib.hid hone0
   clear hp hone0
   go_enter Tryz.func146,Tryz.ntmps146
   go_wp2_with fail
   refine HO.out.mono ?_
   rintro e' w1 ⟨rfl,hm⟩
   have HM:=Lib.hid hm
   clear hm
   go_wp2_with fail
   exact⟨rfl,ppost_bad HM.out⟩
 | ok x c1 =>
   rw[hp] at hone0
   rw[some_ok hp]
   have HO:=Lib.hid hone0
   have hl1:=hP _ _ _ hp
   clear hp hone0
   have HRES:Hid (restP P [x] c1=restP P [x] c1):=Lib.hid rfl
   generalize hres:restP P [x] c1=RES at HRES ⊢
   clear HRES
   have HRS:=Lib.hid hres
   clear hres
   go_enter Tryz.func146,Tryz.ntmps146
   go_wp2_with fail
   refine HO.out.mono ?_
   rintro e' w1 ⟨v,rfl,⟨cs,rfl,⟨hl,h1,he⟩,hj1,hr1⟩,hm⟩
   obtain⟨e0,e1,e2,e3,e4,rfl⟩:=len5 hl
   have hsz1:=hm.size
   have hal:MT B [148,177] w1 (w1.alloc (.cells #[e0,e1,e2,e3,e4] 148)):=(MT.refl w1).alloc _
   have HJ1:=Lib.hid (HJ.out _ _ _ hal hj1)
   have HM1:=Lib.hid (hm.alloc (.cells #[e0,e1,e2,e3,e4] 148))
   have HE1:=Lib.hid (show ElOk 5 El (w1.alloc (.cells #[e0,e1,e2,e3,e4] 148)) [e0,e1,e2,e3,e4] x from ⟨hl,h1,HE.out _ _ _ _ ((MT.refl w1).alloc _) he⟩)
   have HR1:=Lib.hid (hr1.keep (balloc (Below.refl _ _) (.cells #[e0,e1,e2,e3,e4] 148)))
   have HO1:=Lib.hid (World.ownsRow_lit (base:=w.heap.size) (e:=148) (size:=5) w1 #[e0,e1,e2,e3,e4] 1 hsz1 (by unfold maxLen;omega) rfl)
   clear hl h1 he hj1 hr1 hm hal HO
   go_wp2_with fail
   go_loopw [5] (fun v wr=>∃ (ys:List α) (css:List (List Value)) (cc:List Tok) (ad:Option Addr) (cap:Nat),v=.slice ad ys.length cap/\Hid (wr.ownsRow w.heap.size 148 5 (.slice ad ys.length cap) ys.length css.flatten)/\Hid (All2 (ElOk 5 El wr) css ys)/\Hid (J wr ys)/\Hid (Rs wr r cc vt)/\Hid (MT B Ts w wr)/\Hid (restP P ys cc=RES)/\ys.length+cc.length<=200000) (fun v _=>200000 - (match v with | .slice _ n _=>n | _=>0))
   case atStart=>exact⟨[x],[[e0,e1,e2,e3,e4]],c1,some ⟨w1.heap.size,0,none⟩,1,rfl,HO1,Lib.hid ⟨HE1.out,trivial⟩,HJ1,HR1,HM1,HRS,by simp;omega⟩
   case round =>
    obtain⟨ys,css,cc,ad,cap,rfl,OW,AL,JW,RW,MW,RE,hbd⟩:=hrel
    have HIS:=Lib.hid (is_rs RW.out [44])
    cases him:isM [44] cc with
    | false =>
      have hre:=RE.out
      rw[restP_end ys him] at hre
      rw[him] at HIS
      subst hre
      clear him
      go_wp2_with fail
      refine HIS.out.mono ?_
      rintro e2 w2 ⟨rfl,hb2⟩
      have HB2:=Lib.hid hb2
      clear hb2
      go_wp2_with fail
      go_ret
      refine⟨_,rfl,⟨css,(Mod.ofBelow (F:=fun _=>False) HB2.out).ownsRow OW.out (fun _ _ f=>f),AL.out.mono (fun b a h=>⟨h.1,h.2.1,HE.out _ _ _ _ (MT.ofBelow HB2.out) h.2.2⟩),HJ.out _ _ _ (MT.ofBelow HB2.out) JW.out,RW.out.keep HB2.out⟩,MW.out.plusBelow HB2.out⟩
    | true =>
      obtain⟨t,htk⟩:=isM_tk him
      have hne:1<=cc.length:=by
       cases cc with
       | nil=>simp [isM] at him
       | cons _ _=>simp
      have hdl:(cc.drop 1).length=cc.length - 1:=List.length_drop ..
      rw[him] at HIS
      have HIM:=Lib.hid him
      have HTK:=Lib.hid htk
      clear him htk
      go_wp2_with fail
      refine HIS.out.mono ?_
      rintro e2 w2 ⟨rfl,hb2⟩
      have HMK:=Lib.hid (mark_rs (B:=B) (Ts:=[177]) (RW.out.keep hb2) [44] hB (by simp))
      rw[HTK.out] at HMK
      have HB2:=Lib.hid hb2
      clear hb2
      go_wp2_with fail
      refine HMK.out.mono ?_
      rintro e3 w3 ⟨v3,rfl,⟨rfl,hr3⟩,hm3⟩
      have m03:MT B [177] wr w3:=(MT.ofBelow HB2.out).trans hm3
      have hB3:B<=w3.heap.size:=by have:=MW.out.size;have:=m03.size;omega
      have hone3:=HONE.out w3 ys (cc.drop 1) hB3 (HJ.out _ _ _ (m03.wide (by simp)) JW.out) hr3
      have M03:=Lib.hid m03
      have toTs:∀ t∈[177],t∈Ts:=fun t ht=>by simp at ht;subst ht;exact hR
      have TOTS:=Lib.hid toTs
      clear hr3 hm3 m03 toTs
      unfold Tok.v
      cases hp:P (cc.drop 1) with
      | bad a e =>
        rw[hp] at hone3
        have hre:=RE.out
        rw[restP_bad ys HIM.out hp] at hre
        subst hre
        have HO3:=Lib.hid hone3
        clear hp hone3
        go_wp2_with fail
        refine HO3.out.mono ?_
        rintro e4 w4 ⟨rfl,hm4⟩
        have HM4:=Lib.hid hm4
        clear hm4
        go_wp2_with fail
        exact⟨rfl,ppost_bad ((MW.out.trans (M03.out.wide TOTS.out)).trans HM4.out)⟩
      | ok x c4 =>
        rw[hp] at hone3
        have hre:=restP_ok hP ys HIM.out hp
        have hl4:=hP _ _ _ hp
        have hrq:=hre.1
        rw[RE.out] at hrq
        have HRE:=Lib.hid hrq.symm
        have HO3:=Lib.hid hone3
        clear hp hone3 hre hrq
        go_wp2_with fail
        refine HO3.out.mono ?_
        rintro e4 w4 ⟨v4,rfl,⟨cs4,rfl,⟨hl,h1,he⟩,hj4,hr4⟩,hm4⟩
        obtain⟨e0,e1,e2,e3,e4,rfl⟩:=len5 hl
        have m04:MT B Ts wr w4:=(M03.out.wide TOTS.out).trans hm4
        have HO4:=Lib.hid (m04.ownsRow OW.out hT)
        have HW4:=Lib.hid (MW.out.trans m04)
        have hsz4:=HW4.out.size
        have M04:=Lib.hid m04
        have H1:=Lib.hid h1
        have HEL:=Lib.hid he
        have HJ4:=Lib.hid hj4
        have HR4:=Lib.hid hr4
        clear hl h1 he hj4 hr4 hm4 m04
        go_wp2_with (at_builtin;refine wpList_append_lies _ rfl (.tmp 13) (.tmp 16) 143 rfl w.heap.size 148 i0 (.agg #[.string ⟨#[]⟩,.int .i64 0,.int .i64 0,.string ⟨#[]⟩,.int .i64 0]) 5 56 Tryz.underlying143 hi0 hz0 hz1 hz2 rfl (by decide) (.slice ad ys.length cap) ys.length _ rfl (HO4.out.alloc _) ⟨_,0,none⟩ 1 1 [e0,e1,e2,e3,e4] rfl rfl (World.news_of_block (Blk.new _ _ _)) H1.out (by decide) ?c3 ?c5 ?c4 _ rfl ?_)
        case c3=>unfold maxLen;omega
        case c5=>omega
        case c4=>simp;omega
        intro g cap1 w5 hown2 hgrow2 hat2 hlt2
        have m45:MT B [148] w4 w5:=((MT.refl w4).alloc _).grown hgrow2 (HO4.out.alloc _) (by simp) hw
        have mall:MT B (148::Ts) wr w5:=(M04.out.wide (fun _ h=>List.mem_cons_of_mem _ h)).trans (m45.wide (by simp))
        have HO5:=Lib.hid hown2
        have MALL:=Lib.hid mall
        have M45:=Lib.hid m45
        have HG:=Lib.hid hgrow2
        clear hown2 hgrow2 hat2 hlt2 m45 mall
        go_wp2_with fail
        go_roundw
        case rel =>
         refine⟨ys++[x],css++[[e0,e1,e2,e3,e4]],c4,some ⟨g,0,none⟩,cap1,by simp,Lib.hid ?_,Lib.hid ?_,Lib.hid (HJ.out _ _ _ (M45.out.wide (by simp)) HJ4.out),Lib.hid (HR4.out.mt M45.out (by decide) (by decide)),Lib.hid ?_,HRE,by simp;omega⟩
         ·have:=HO5.out
          simpa [List.flatten_append] using this
         ·exact (AL.out.mono (fun b a h=>⟨h.1,h.2.1,HE.out _ _ _ _ MALL.out h.2.2⟩)).snoc ⟨rfl,H1.out,HE.out _ _ _ _ (M45.out.wide (by simp)) HEL.out⟩
         ·exact Mod.grown (HW4.out.alloc _) HG.out (fun k hk hlt=>by have:=(HO4.out.lt k hk).1;omega)
        case measure=>simp;omega
set_option maxHeartbeats 16000000 in
set_option maxRecDepth 100000 in
theorem list_Tm {α:Type} (P:List Tok->PR α) (El:World->List Value->α->Prop) (J:World->List α->Prop) (B:Nat) (Ts:List TypeId) (r:Nat) (vt:Value) (lb:Array Value)
 (hP:Less P) (hB:B<=r) (hR:177∈Ts) (hT:148 ∉ Ts)
 (hJ:∀ (w w':World) (xs:List α),MT B [148,177] w w'->J w xs->J w' xs)
 (hE:∀ (w w':World) (cs:List Value) (x:α),MT B (148::Ts) w w'->El w cs x->El w' cs x)
 (hone:∀ (w:World) (xs:List α) (c:List Tok),B<=w.heap.size->J w xs->Rs w r c vt->Calls Tryz.prog 88 lb w (PPost (fun x c' v w'=>OneR 5 El J r vt xs x c' v w') B Ts w (P c)))
 (w:World) (c:List Tok) (hc:Rs w r c vt) (hj:J w []) (hw:B<=w.heap.size) :
 Calls Tryz.prog 87 #[.pointer (some ⟨r,0,none⟩),.func (.func 88) #[] lb] w (PPost (fun xs c' v w'=>ListR w.heap.size 148 5 El J r vt xs c' v w') B Ts w (listP P c)):=by
 have HSOME:=Lib.hid (fun W C=>some_Tm P El J B Ts r vt lb hP hB hR hT hJ hE hone W C)
 have HJ:=Lib.hid hJ
 have HE:=Lib.hid hE
 have hmk:=mark_rs (B:=B) (Ts:=[177]) hc [40] hB (by simp)
 have HJW:=Lib.hid hj
 have toTs:∀ t∈[177],t∈Ts:=fun t ht=>by simp at ht;subst ht;exact hR
 have TOTS:=Lib.hid toTs
 clear hone hJ hE hj hc toTs
 cases h0:tk 3 [[40]] c with
 | bad a e =>
   rw[h0] at hmk
   rw[list_bad0 h0]
   have HMK:=Lib.hid hmk
   clear hmk h0
   go_enter Tryz.func87,Tryz.ntmps87
   go_wp2_with fail
   refine HMK.out.mono ?_
   rintro e1 w1 ⟨rfl,hm⟩
   have HM:=Lib.hid hm
   clear hm
   go_wp2_with fail
   exact⟨rfl,ppost_bad (HM.out.wide TOTS.out)⟩
 | ok t c1 =>
   rw[h0] at hmk
   have H0:=Lib.hid h0
   have HMK:=Lib.hid hmk
   clear hmk h0
   cases him:isM [41] c1 with
   | true =>
     rw[list_none H0.out him]
     obtain⟨u,hu⟩:=isM_tk him
     have HIM:=Lib.hid him
     have HU:=Lib.hid hu
     clear him hu
     go_enter Tryz.func87,Tryz.ntmps87
     go_wp2_with fail
     refine HMK.out.mono ?_
     rintro e1 w1 ⟨v1,rfl,⟨rfl,hr1⟩,hm⟩
     have HM:=Lib.hid hm
     have HR1:=Lib.hid hr1
     have his:=is_rs hr1 [41]
     rw[HIM.out] at his
     have HIS:=Lib.hid his
     clear hm hr1 his
     unfold Tok.v
     go_wp2_with fail
     refine HIS.out.mono ?_
     rintro e2 w2 ⟨rfl,hb2⟩
     have hmk2:=mark_rs (B:=B) (Ts:=[177]) (HR1.out.keep hb2) [41] hB (by simp)
     rw[HU.out] at hmk2
     have HMK2:=Lib.hid hmk2
     have HB2:=Lib.hid hb2
     clear hb2 hmk2
     go_wp2_with fail
     refine HMK2.out.mono ?_
     rintro e3 w3 ⟨v3,rfl,⟨rfl,hr3⟩,hm3⟩
     have m3:MT B [177] w w3:=(HM.out.plusBelow HB2.out).trans hm3
     have M3:=Lib.hid m3
     have HR3:=Lib.hid hr3
     clear hr3 hm3 m3
     unfold Tok.v
     go_wp2_with fail
     go_ret
     exact⟨_,rfl,⟨[],World.ownsRow_nil _ _ _ _,trivial,HJ.out _ _ _ (M3.out.wide (by simp)) HJW.out,HR3.out⟩,M3.out.wide TOTS.out⟩
   | false =>
     have HIM:=Lib.hid him
     clear him
     cases hs:someP P c1 with
     | bad a e =>
       rw[list_bad1 H0.out HIM.out hs]
       have HS:=Lib.hid hs
       clear hs
       go_enter Tryz.func87,Tryz.ntmps87
       go_wp2_with fail
       refine HMK.out.mono ?_
       rintro e1 w1 ⟨v1,rfl,⟨rfl,hr1⟩,hm⟩
       have HM:=Lib.hid hm
       have HR1:=Lib.hid hr1
       have his:=is_rs hr1 [41]
       rw[HIM.out] at his
       have HIS:=Lib.hid his
       clear hm hr1 his
       unfold Tok.v
       go_wp2_with fail
       refine HIS.out.mono ?_
       rintro e2 w2 ⟨rfl,hb2⟩
       have m2:MT B [177] w w2:=HM.out.plusBelow hb2
       have hso:=HSOME.out w2 c1 (HR1.out.keep hb2) (HJ.out _ _ _ (m2.wide (by simp)) HJW.out) (by have:=m2.size;omega)
       rw[HS.out] at hso
       have HSO:=Lib.hid hso
       have M2:=Lib.hid m2
       clear hso m2 hb2
       go_wp2_with fail
       refine HSO.out.mono ?_
       rintro e3 w3 ⟨rfl,hm3⟩
       have HM3:=Lib.hid hm3
       clear hm3
       go_wp2_with fail
       exact⟨rfl,ppost_bad ((M2.out.wide TOTS.out).trans HM3.out)⟩
     | ok xs c2 =>
       cases h4:tk 3 [[41]] c2 with
       | bad a e =>
         rw[list_bad2 H0.out HIM.out hs h4]
         have HS:=Lib.hid hs
         have H4:=Lib.hid h4
         clear hs h4
         go_enter Tryz.func87,Tryz.ntmps87
         go_wp2_with fail
         refine HMK.out.mono ?_
         rintro e1 w1 ⟨v1,rfl,⟨rfl,hr1⟩,hm⟩
         have HM:=Lib.hid hm
         have HR1:=Lib.hid hr1
         have his:=is_rs hr1 [41]
         rw[HIM.out] at his
         have HIS:=Lib.hid his
         clear hm hr1 his
         unfold Tok.v
         go_wp2_with fail
         refine HIS.out.mono ?_
         rintro e2 w2 ⟨rfl,hb2⟩
         have m2:MT B [177] w w2:=HM.out.plusBelow hb2
         have hso:=HSOME.out w2 c1 (HR1.out.keep hb2) (HJ.out _ _ _ (m2.wide (by simp)) HJW.out) (by have:=m2.size;omega)
         rw[HS.out] at hso
         have HSO:=Lib.hid hso
         have M2:=Lib.hid m2
         clear hso m2 hb2
         go_wp2_with fail
         refine HSO.out.mono ?_
         rintro e3 w3 ⟨v3,rfl,⟨css,hown,hal,hj3,hr3⟩,hm3⟩
         obtain⟨ad,cap,rfl⟩:=own_sl hown
         have hmk3:=mark_rs (B:=B) (Ts:=[177]) hr3 [41] hB (by simp)
         rw[H4.out] at hmk3
         have hl2:=M2.out.size
         have HOWN:=Lib.hid (World.ownsRow.low hown hl2)
         have HAL:=Lib.hid hal
         have HJ3:=Lib.hid hj3
         have HM3:=Lib.hid ((M2.out.wide TOTS.out).trans hm3)
         have HMK3:=Lib.hid hmk3
         clear hown hal hj3 hm3 hr3 hmk3
         go_wp2_with fail
         refine HMK3.out.mono ?_
         rintro e4 w4 ⟨rfl,hm4⟩
         have HM4:=Lib.hid hm4
         clear hm4
         go_wp2_with fail
         exact⟨rfl,ppost_bad (HM3.out.trans (HM4.out.wide TOTS.out))⟩
       | ok u c3 =>
         rw[list_ok H0.out HIM.out hs h4]
         have HS:=Lib.hid hs
         have H4:=Lib.hid h4
         clear hs h4
         go_enter Tryz.func87,Tryz.ntmps87
         go_wp2_with fail
         refine HMK.out.mono ?_
         rintro e1 w1 ⟨v1,rfl,⟨rfl,hr1⟩,hm⟩
         have HM:=Lib.hid hm
         have HR1:=Lib.hid hr1
         have his:=is_rs hr1 [41]
         rw[HIM.out] at his
         have HIS:=Lib.hid his
         clear hm hr1 his
         unfold Tok.v
         go_wp2_with fail
         refine HIS.out.mono ?_
         rintro e2 w2 ⟨rfl,hb2⟩
         have m2:MT B [177] w w2:=HM.out.plusBelow hb2
         have hso:=HSOME.out w2 c1 (HR1.out.keep hb2) (HJ.out _ _ _ (m2.wide (by simp)) HJW.out) (by have:=m2.size;omega)
         rw[HS.out] at hso
         have HSO:=Lib.hid hso
         have M2:=Lib.hid m2
         clear hso m2 hb2
         go_wp2_with fail
         refine HSO.out.mono ?_
         rintro e3 w3 ⟨v3,rfl,⟨css,hown,hal,hj3,hr3⟩,hm3⟩
         obtain⟨ad,cap,rfl⟩:=own_sl hown
         have hmk3:=mark_rs (B:=B) (Ts:=[177]) hr3 [41] hB (by simp)
         rw[H4.out] at hmk3
         have hl2:=M2.out.size
         have HOWN:=Lib.hid (World.ownsRow.low hown hl2)
         have HAL:=Lib.hid hal
         have HJ3:=Lib.hid hj3
         have HM3:=Lib.hid ((M2.out.wide TOTS.out).trans hm3)
         have HMK3:=Lib.hid hmk3
         clear hown hal hj3 hm3 hr3 hmk3
         go_wp2_with fail
         refine HMK3.out.mono ?_
         rintro e4 w4 ⟨v4,rfl,⟨rfl,hr4⟩,hm4⟩
         have HM4:=Lib.hid hm4
         have HR4:=Lib.hid hr4
         clear hm4 hr4
         unfold Tok.v
         go_wp2_with fail
         go_ret
         exact⟨_,rfl,⟨css,HM4.out.ownsRow HOWN.out (by decide),HAL.out.mono (fun b a h=>⟨h.1,h.2.1,HE.out _ _ _ _ ((HM4.out.wide TOTS.out).wide (fun _ h=>List.mem_cons_of_mem _ h)) h.2.2⟩),HJ.out _ _ _ (HM4.out.wide (by simp)) HJ3.out,HR4.out⟩,HM3.out.trans (HM4.out.wide TOTS.out)⟩
theorem Tryz.info_At:(Tryz.prog.info? 145).map (fun i=>(i.zero,i.size,i.bytes))=some (some (.agg #[.string ⟨#[]⟩,.int .i64 0,.slice none 0 0]),3,48):=by kernel_rfl
set_option maxHeartbeats 16000000 in
set_option maxRecDepth 100000 in
theorem some_At {α:Type} (P:List Tok->PR α) (El:World->List Value->α->Prop) (J:World->List α->Prop) (B:Nat) (Ts:List TypeId) (r:Nat) (vt:Value) (lb:Array Value)
 (hP:Less P) (hB:B<=r) (hR:177∈Ts) (hT:145 ∉ Ts)
 (hJ:∀ (w w':World) (xs:List α),MT B [145,177] w w'->J w xs->J w' xs)
 (hE:∀ (w w':World) (cs:List Value) (x:α),MT B (145::Ts) w w'->El w cs x->El w' cs x)
 (hone:∀ (w:World) (xs:List α) (c:List Tok),B<=w.heap.size->J w xs->Rs w r c vt->Calls Tryz.prog 86 lb w (PPost (fun x c' v w'=>OneR 3 El J r vt xs x c' v w') B Ts w (P c)))
 (w:World) (c:List Tok) (hc:Rs w r c vt) (hj:J w []) (hw:B<=w.heap.size) :
 Calls Tryz.prog 85 #[.pointer (some ⟨r,0,none⟩),.func (.func 86) #[] lb] w (PPost (fun xs c' v w'=>ListR w.heap.size 145 3 El J r vt xs c' v w') B Ts w (someP P c)):=by
 obtain⟨i0,hi0,hz0,hz1,hz2⟩:=info_parts Tryz.info_At
 have hlen:=hc.len
 have HONE:=Lib.hid hone
 have HJ:=Lib.hid hJ
 have HE:=Lib.hid hE
 have hone0:=hone w [] c hw hj hc
 have hTR:145 ∉ [177]:=by decide
 clear hone hJ hE hj hc
 cases hp:P c with
 | bad a e =>
   rw[hp] at hone0
   rw[some_bad hp]
   have HO:=Lib.hid hone0
   clear hp hone0
   go_enter Tryz.func85,Tryz.ntmps85
   go_wp2_with fail
   refine HO.out.mono ?_
   rintro e' w1 ⟨rfl,hm⟩
   have HM:=Lib.hid hm
   clear hm
   go_wp2_with fail
   exact⟨rfl,ppost_bad HM.out⟩
 | ok x c1 =>
   rw[hp] at hone0
   rw[some_ok hp]
   have HO:=Lib.hid hone0
   have hl1:=hP _ _ _ hp
   clear hp hone0
   have HRES:Hid (restP P [x] c1=restP P [x] c1):=Lib.hid rfl
   generalize hres:restP P [x] c1=RES at HRES ⊢
   clear HRES
   have HRS:=Lib.hid hres
   clear hres
   go_enter Tryz.func85,Tryz.ntmps85
   go_wp2_with fail
   refine HO.out.mono ?_
   rintro e' w1 ⟨v,rfl,⟨cs,rfl,⟨hl,h1,he⟩,hj1,hr1⟩,hm⟩
   obtain⟨e0,e1,e2,rfl⟩:=len3 hl
   have hsz1:=hm.size
   have hal:MT B [145,177] w1 (w1.alloc (.cells #[e0,e1,e2] 145)):=(MT.refl w1).alloc _
   have HJ1:=Lib.hid (HJ.out _ _ _ hal hj1)
   have HM1:=Lib.hid (hm.alloc (.cells #[e0,e1,e2] 145))
   have HE1:=Lib.hid (show ElOk 3 El (w1.alloc (.cells #[e0,e1,e2] 145)) [e0,e1,e2] x from ⟨hl,h1,HE.out _ _ _ _ ((MT.refl w1).alloc _) he⟩)
   have HR1:=Lib.hid (hr1.keep (balloc (Below.refl _ _) (.cells #[e0,e1,e2] 145)))
   have HO1:=Lib.hid (World.ownsRow_lit (base:=w.heap.size) (e:=145) (size:=3) w1 #[e0,e1,e2] 1 hsz1 (by unfold maxLen;omega) rfl)
   clear hl h1 he hj1 hr1 hm hal HO
   go_wp2_with fail
   go_loopw [5] (fun v wr=>∃ (ys:List α) (css:List (List Value)) (cc:List Tok) (ad:Option Addr) (cap:Nat),v=.slice ad ys.length cap/\Hid (wr.ownsRow w.heap.size 145 3 (.slice ad ys.length cap) ys.length css.flatten)/\Hid (All2 (ElOk 3 El wr) css ys)/\Hid (J wr ys)/\Hid (Rs wr r cc vt)/\Hid (MT B Ts w wr)/\Hid (restP P ys cc=RES)/\ys.length+cc.length<=200000) (fun v _=>200000 - (match v with | .slice _ n _=>n | _=>0))
   case atStart=>exact⟨[x],[[e0,e1,e2]],c1,some ⟨w1.heap.size,0,none⟩,1,rfl,HO1,Lib.hid ⟨HE1.out,trivial⟩,HJ1,HR1,HM1,HRS,by simp;omega⟩
   case round =>
    obtain⟨ys,css,cc,ad,cap,rfl,OW,AL,JW,RW,MW,RE,hbd⟩:=hrel
    have HIS:=Lib.hid (is_rs RW.out [44])
    cases him:isM [44] cc with
    | false =>
      have hre:=RE.out
      rw[restP_end ys him] at hre
      rw[him] at HIS
      subst hre
      clear him
      go_wp2_with fail
      refine HIS.out.mono ?_
      rintro e2 w2 ⟨rfl,hb2⟩
      have HB2:=Lib.hid hb2
      clear hb2
      go_wp2_with fail
      go_ret
      refine⟨_,rfl,⟨css,(Mod.ofBelow (F:=fun _=>False) HB2.out).ownsRow OW.out (fun _ _ f=>f),AL.out.mono (fun b a h=>⟨h.1,h.2.1,HE.out _ _ _ _ (MT.ofBelow HB2.out) h.2.2⟩),HJ.out _ _ _ (MT.ofBelow HB2.out) JW.out,RW.out.keep HB2.out⟩,MW.out.plusBelow HB2.out⟩
    | true =>
      obtain⟨t,htk⟩:=isM_tk him
      have hne:1<=cc.length:=by
       cases cc with
       | nil=>simp [isM] at him
       | cons _ _=>simp
      have hdl:(cc.drop 1).length=cc.length - 1:=List.length_drop ..
      rw[him] at HIS
      have HIM:=Lib.hid him
      have HTK:=Lib.hid htk
      clear him htk
      go_wp2_with fail
      refine HIS.out.mono ?_
      rintro e2 w2 ⟨rfl,hb2⟩
      have HMK:=Lib.hid (mark_rs (B:=B) (Ts:=[177]) (RW.out.keep hb2) [44] hB (by simp))
      rw[HTK.out] at HMK
      have HB2:=Lib.hid hb2
      clear hb2
      go_wp2_with fail
      refine HMK.out.mono ?_
      rintro e3 w3 ⟨v3,rfl,⟨rfl,hr3⟩,hm3⟩
      have m03:MT B [177] wr w3:=(MT.ofBelow HB2.out).trans hm3
      have hB3:B<=w3.heap.size:=by have:=MW.out.size;have:=m03.size;omega
      have hone3:=HONE.out w3 ys (cc.drop 1) hB3 (HJ.out _ _ _ (m03.wide (by simp)) JW.out) hr3
      have M03:=Lib.hid m03
      have toTs:∀ t∈[177],t∈Ts:=fun t ht=>by simp at ht;subst ht;exact hR
      have TOTS:=Lib.hid toTs
      clear hr3 hm3 m03 toTs
      unfold Tok.v
      cases hp:P (cc.drop 1) with
      | bad a e =>
        rw[hp] at hone3
        have hre:=RE.out
        rw[restP_bad ys HIM.out hp] at hre
        subst hre
        have HO3:=Lib.hid hone3
        clear hp hone3
        go_wp2_with fail
        refine HO3.out.mono ?_
        rintro e4 w4 ⟨rfl,hm4⟩
        have HM4:=Lib.hid hm4
        clear hm4
        go_wp2_with fail
        exact⟨rfl,ppost_bad ((MW.out.trans (M03.out.wide TOTS.out)).trans HM4.out)⟩
      | ok x c4 =>
        rw[hp] at hone3
        have hre:=restP_ok hP ys HIM.out hp
        have hl4:=hP _ _ _ hp
        have hrq:=hre.1
        rw[RE.out] at hrq
        have HRE:=Lib.hid hrq.symm
        have HO3:=Lib.hid hone3
        clear hp hone3 hre hrq
        go_wp2_with fail
        refine HO3.out.mono ?_
        rintro e4 w4 ⟨v4,rfl,⟨cs4,rfl,⟨hl,h1,he⟩,hj4,hr4⟩,hm4⟩
        obtain⟨e0,e1,e2,rfl⟩:=len3 hl
        have m04:MT B Ts wr w4:=(M03.out.wide TOTS.out).trans hm4
        have HO4:=Lib.hid (m04.ownsRow OW.out hT)
        have HW4:=Lib.hid (MW.out.trans m04)
        have hsz4:=HW4.out.size
        have M04:=Lib.hid m04
        have H1:=Lib.hid h1
        have HEL:=Lib.hid he
        have HJ4:=Lib.hid hj4
        have HR4:=Lib.hid hr4
        clear hl h1 he hj4 hr4 hm4 m04
        go_wp2_with (at_builtin;refine wpList_append_lies _ rfl (.tmp 13) (.tmp 16) 141 rfl w.heap.size 145 i0 (.agg #[.string ⟨#[]⟩,.int .i64 0,.slice none 0 0]) 3 48 Tryz.underlying141 hi0 hz0 hz1 hz2 rfl (by decide) (.slice ad ys.length cap) ys.length _ rfl (HO4.out.alloc _) ⟨_,0,none⟩ 1 1 [e0,e1,e2] rfl rfl (World.news_of_block (Blk.new _ _ _)) H1.out (by decide) ?c3 ?c5 ?c4 _ rfl ?_)
        case c3=>unfold maxLen;omega
        case c5=>omega
        case c4=>simp;omega
        intro g cap1 w5 hown2 hgrow2 hat2 hlt2
        have m45:MT B [145] w4 w5:=((MT.refl w4).alloc _).grown hgrow2 (HO4.out.alloc _) (by simp) hw
        have mall:MT B (145::Ts) wr w5:=(M04.out.wide (fun _ h=>List.mem_cons_of_mem _ h)).trans (m45.wide (by simp))
        have HO5:=Lib.hid hown2
        have MALL:=Lib.hid mall
        have M45:=Lib.hid m45
        have HG:=Lib.hid hgrow2
        clear hown2 hgrow2 hat2 hlt2 m45 mall
        go_wp2_with fail
        go_roundw
        case rel =>
         refine⟨ys++[x],css++[[e0,e1,e2]],c4,some ⟨g,0,none⟩,cap1,by simp,Lib.hid ?_,Lib.hid ?_,Lib.hid (HJ.out _ _ _ (M45.out.wide (by simp)) HJ4.out),Lib.hid (HR4.out.mt M45.out (by decide) (by decide)),Lib.hid ?_,HRE,by simp;omega⟩
         ·have:=HO5.out
          simpa [List.flatten_append] using this
         ·exact (AL.out.mono (fun b a h=>⟨h.1,h.2.1,HE.out _ _ _ _ MALL.out h.2.2⟩)).snoc ⟨rfl,H1.out,HE.out _ _ _ _ (M45.out.wide (by simp)) HEL.out⟩
         ·exact Mod.grown (HW4.out.alloc _) HG.out (fun k hk hlt=>by have:=(HO4.out.lt k hk).1;omega)
        case measure=>simp;omega
end Go.Proofs.YtamjadghncnbcaaGreatDoor
