/- osierref09.Texts, Copy, walked. change.Parse's closure: one change, read. -/
import Derived.Test.YtgopfpjinohncaaGreatDoorGmV
import Derived.Test.YtgopfpjinohncaaGreatDoorBaV
import Derived.Deep.Cut
import Derived.Deep.CutRange
import Derived.RegionDies
import Derived.Deep.RegionLaw
namespace Go.Proofs.YtgopfpjinohncaaGreatDoor
open Go.RowKit
set_option linter.unusedVariables false
theorem strC_len (l:List (List UInt8)):∀ x∈l.map strC,x.length=1:=by
 intro x hx
 simp at hx
 obtain⟨t,_,rfl⟩:=hx
 rfl
theorem strC_one (l:List (List UInt8)):∀ x∈l.map strC,∀ u∈x,u.oneCell'=true:=by
 intro x hx u hu
 simp at hx
 obtain⟨t,_,rfl⟩:=hx
 simp only[strC,List.mem_cons,List.not_mem_nil,or_false] at hu
 subst hu
 rfl
set_option maxHeartbeats 2000000 in
set_option maxRecDepth 100000 in
theorem textsC_any (w:World) (v:Value) (l:List (List UInt8)) (h:StrsAt w v l) :
 Calls Tryz.prog 17 #[v] w fun e w'=>∃ v',e=.returned v'/\OwnS w.heap.size w' v' l/\Below w.heap.size w w':=by
 obtain⟨i0,hi0,hz0,hz1,hz2⟩:=info_parts Tryz.infoStr
 obtain⟨ad,cap,rfl,hnc,hcm⟩:=h.form
 have hln:=h.len
 unfold maxLen at hcm
 have HR:Hid (RowAt w (.slice ad l.length cap) 1 (l.map strC)):=Lib.hid h
 have HL:=Lib.hid (strC_len l)
 have HO:=Lib.hid (strC_one l)
 have hlen:(l.map strC).length=l.length:=by simp
 have hfl:=strC_flat l
 have hos:∀ (w':World) (v':Value),w'.ownsRow w.heap.size 9 1 v' l.length (l.map strC).flatten->OwnS w.heap.size w' v' l:=fun w' v' hh=>by
  unfold OwnS
  rw[<-strC_flat]
  exact hh
 generalize l.map strC=xs at *
 generalize hN:l.length=n at *
 have HX:=Lib.hid hlen
 have HOS:=Lib.hid hos
 clear h hN hlen hfl hos
 go_enter Tryz.func17,Tryz.ntmps17
 go_wp2_with (at_make;refine wpList_make_full _ rfl _ _ 28 rfl w.heap.size 9 i0 (.string ⟨#[]⟩) 1 Tryz.underlying28 hi0 hz0 hz1 _ _ _ _ n rfl rfl rfl rfl ?b2 ?b3 ?b4 ?_)
 case b2=>rw[hz2];omega
 case b3=>unfold maxLen;omega
 case b4=>omega
 intro w2 hown2 hgrow2
 have hbw2:Below w.heap.size w w2:=(Below.refl _ w).grown hgrow2 (Nat.le_refl _) (fun q hq=>by cases hq)
 have HOW2:=Lib.hid hown2
 have HBW2:=Lib.hid hbw2
 have HR2:=Lib.hid (HR.out.keep hbw2)
 clear hbw2 hown2 hgrow2
 go_wp2_with (refine wpList_copy_full rfl _ _ _ _ rfl 9 1 Tryz.underlying28 (by kernel_rfl) w.heap.size n _ rfl rfl _ w.heap.size HOW2.out xs HR2.out HX.out HL.out HO.out (Nat.le_refl _) ?_)
 intro w3 hown3 hmod3 hsz3
 have HOW3:=Lib.hid (HOS.out _ _ hown3)
 have HBW3:=Lib.hid (Mod.own HBW2.out hmod3 (Nat.le_refl _))
 clear hown3 hmod3 hsz3
 go_wp2_with fail
 go_ret
 exact⟨_,rfl,HOW3.out,HBW3.out⟩
theorem set3_facts {w1:World} {y:Nat} {tq:TypeId} {a b c a' b' c':Value} (hz:Blk w1 y tq #[a',b',c']) :
 Blk (((w1.setCell ⟨y,0,none⟩ a).setCell ⟨y,1,none⟩ b).setCell ⟨y,2,none⟩ c) y tq #[a,b,c]/\MT 0 [tq] w1 (((w1.setCell ⟨y,0,none⟩ a).setCell ⟨y,1,none⟩ b).setCell ⟨y,2,none⟩ c) /\
 (∀ (g:Nat) (t:TypeId) (cs:Array Value),g≠y->Blk w1 g t cs->Blk (((w1.setCell ⟨y,0,none⟩ a).setCell ⟨y,1,none⟩ b).setCell ⟨y,2,none⟩ c) g t cs) /\
 ∀ (B:Nat) (w0:World),B<=y->Below B w0 w1->Below B w0 (((w1.setCell ⟨y,0,none⟩ a).setCell ⟨y,1,none⟩ b).setCell ⟨y,2,none⟩ c):=by
 have z1:=hz.set_ 0 a
 have z2:=z1.set_ 1 b
 have z3:=z2.set_ 2 c
 refine⟨by simpa using z3,?_,fun g t cs hg hb=>((hb.far hg _).far hg _).far hg _,fun B w0 hB hb=>((hb.setCell (p:=⟨y,0,none⟩) hB _).setCell (p:=⟨y,1,none⟩) hB _).setCell (p:=⟨y,2,none⟩) hB _⟩
 exact MT.setCell (MT.setCell (MT.setCell (MT.refl w1) hz (by simp) (Nat.zero_le _) a) z1 (by simp) (Nat.zero_le _) b) z2 (by simp) (Nat.zero_le _) c
theorem atomsRowG {B:Nat} {w:World} {v:Value} {n:Nat} {rows:List (List Value)} {al:List Atm} (h:w.ownsRow B 105 2 v n rows.flatten) (hn:n=al.length) (h2:All2 (AtmO B w) rows al) (hl:al.length<=8796093022208) (ht:∀ a∈al,a.ts.length<=2932031007317):AtomsAt w v al:=by
 have hll:=h2.length
 refine⟨rows,RowAt.ofOwn h (by omega) ?_ (by omega),all2_and h2 fun c x hx hr=>?_⟩
 ·intro c hc
  obtain⟨x,_,tv,rfl,_⟩:=all2_mem h2 c hc
  rfl
 ·obtain⟨tv,rfl,ho⟩:=hr
  rw[<-map_flat] at ho
  refine⟨tv,rfl,RowAt.ofOwn ho (by simp) (trm_len _) (by have:=ht x hx;simp;omega),ht x hx⟩
theorem AtomsAt.small {w:World} {v:Value} {al:List Atm} (h:AtomsAt w v al):∀ a∈al,a.ts.length<=2932031007317:=by
 intro a ha
 obtain⟨i,hi⟩:=List.getElem?_of_mem ha
 obtain⟨_,_,_,_,_,_,_,_,_,_,_,h9⟩:=h.get hi
 exact h9
theorem Tryz.infoChg:(Tryz.prog.info? 68).map (fun i=>(i.zero,i.size,i.bytes))=some (some (.agg #[.bool false,.string ⟨#[]⟩,.slice none 0 0]),3,48):=by kernel_rfl
theorem overB_same {xs:List ChP} {a b:ChP} (h:a.2=b.2):overP (xs++[a])=overP (xs++[b]):=by
 rw[overB_snoc,overB_snoc,h]
def JB (B n b r ov:Nat) (w:World) (bv:Value) (xs:List ChP):Prop :=
 InB w b r/\Blk w ov 3 #[.int .i64 (overP xs)]/\Blk w n 53 #[bv]/\ChgsOwn B w bv (xs.map (·.1))
def F1 (n:Nat) (w:World) (bv:Value) (k:Nat):Prop:=k=n∨(n+3<=k/\tyIn w [213,3] k)∨bv.ownBlock=some k
def CPost (B n b r ov:Nat) (vt:Value) (w:World) (bv:Value) (xs:List ChP):PR ChP->Ending->World->Prop
 | .bad a f,e,w'=>e=.panicked [{ v:=faultV a f,recovered:=false }]/\MT (n+3) [213,3] w w'
 | .ok x c',e,w'=>∃ bv' rv,e=.returned (.agg #[.bool x.1.add,.string ⟨x.1.rel.toArray⟩,rv])/\rv.oneCell'=true/\JB B n b r ov w' bv' (xs++[x])/\Rs w' r c' vt/\Mod (F1 n w bv) w w' /\
    ∀ k,bv'.ownBlock=some k->bv.ownBlock=some k∨w.heap.size<=k
theorem sgn_tx (w:World) (o:Obj):TX ((w.alloc o).alloc (.cells #[.string ⟨#[43]⟩,.string ⟨#[45]⟩] 9)) (.slice (some ⟨w.heap.size+1,0,none⟩) 2 2) sgnX:=by
 have hbs:=blkNew1 w o 9 #[.string ⟨#[43]⟩,.string ⟨#[45]⟩]
 refine⟨by simp,some ⟨w.heap.size+1,0,none⟩,2,rfl,.inr ⟨w.heap.size+1,0,rfl,hbs.lt,?_⟩⟩
 intro j s hj
 match j with
 | 0=>simp at hj;subst hj;exact hbs.cell 0
 | 1=>simp at hj;subst hj;exact hbs.cell 1
 | j+2=>simp at hj
theorem chgs_snoc {B g cap L:Nat} {w9:World} {rows:List (List Value)} {l:List Chg} {x:Chg} {rv:Value} (hL:l.length=L)
 (hown:w9.ownsRow B 68 3 (.slice (some ⟨g,0,none⟩) (L+1) cap) (L+1) (rows.flatten++[.bool x.add,.string ⟨x.rel.toArray⟩,rv]))
 (hall:All2 (ChgO B w9) rows l) (hrow:w9.ownsRow B 111 3 rv x.row.length (x.row.map Vl.cells).flatten):ChgsOwn B w9 (.slice (some ⟨g,0,none⟩) (L+1) cap) (l++[x]):=by
 subst hL
 refine⟨rows++[[.bool x.add,.string ⟨x.rel.toArray⟩,rv]],?_,All2.snoc ⟨rv,rfl,hrow⟩ hall⟩
 rw[List.flatten_append,List.length_append]
 simpa using hown
set_option maxHeartbeats 16000000 in
set_option maxRecDepth 100000 in
theorem chgClo_any {B n b r ov:Nat} {w:World} {bv:Value} {c:List Tok} {vt:Value} {xs:List ChP} (hj:JB B n b r ov w bv xs) (h:Rs w r c vt) (hBn:B<=n+3) (hB:n+3<=r) (hw:n+3<=w.heap.size) (hov:n+3<=ov) (hlen:xs.length+c.length<=200000) :
 Calls Tryz.prog 143 #[.pointer (some ⟨b,0,none⟩),.pointer (some ⟨n,0,none⟩),.pointer (some ⟨ov,0,none⟩)] w (CPost B n b r ov vt w bv xs (chgP c)):=by
 obtain⟨ic,hic,hc0,hc1,hc2⟩:=info_parts Tryz.infoChg
 have hmf:∀ (fn:Fn) (first cap:Array Value) (w:World),(Instr.makeFunc fn first cap).run Tryz.prog w=.ok (.func fn first cap) w:=fun _ _ _ _=>rfl
 have hf1:∀ (a b c d e f:Value) (w:World),(Instr.field 122 (.agg #[a,b,c,d,e,f]) 1).run Tryz.prog w=.ok b w:=fun _ _ _ _ _ _ _=>by kernel_rfl
 obtain⟨hi,hob,hnb,rows,hown,hall⟩:=hj
 rw[List.length_map] at hown
 obtain⟨ba,bc,rfl⟩:=own_sl hown
 have hb0:Below w.heap.size w ((w.alloc (.cells #[.bool false,.string ⟨#[]⟩,.slice none 0 0] 68)).alloc (.cells #[.string ⟨#[43]⟩,.string ⟨#[45]⟩] 9)):=balloc (balloc (Below.refl _ _) _) _
 have htk:=take_rs (B:=n+3) (Ts:=[213]) (h.keep hb0) 3 sgnX _ (sgn_tx w _) hB (by simp)
 have zb:=(Blk.new w 68 #[.bool false,.string ⟨#[]⟩,.slice none 0 0]).alloc (.cells #[.string ⟨#[43]⟩,.string ⟨#[45]⟩] 9)
 have x0:=Blk.cell hi 0
 have hbl:=Blk.lt hi
 have hol:=hob.lt
 have hnl:=hnb.lt
 simp at x0
 have HI:=Lib.hid hi
 have HOB:=Lib.hid hob
 have HNB:=Lib.hid hnb
 have HOWN:=Lib.hid hown
 have HALL:=Lib.hid hall
 have HLT:=Lib.hid (fun k hk=>(World.ownsRow.lt hown k hk).2)
 have HB0:=Lib.hid hb0
 have ZB:=Lib.hid zb
 obtain⟨L,hL⟩:∃ L,xs.length=L:=⟨_,rfl⟩
 rw[hL] at HNB HOWN HLT hlen ⊢
 have HL:=Lib.hid hL
 clear h hb0 zb hi hob hnb hown hall hL
 obtain⟨Q,hQ⟩:∃ Q,Q=chgP c:=⟨_,rfl⟩
 rw[<-hQ]
 have HQ:=Lib.hid hQ
 clear hQ
 cases h0:tk 3 sgnX c with
 | bad a e =>
   have hq:=HQ.out
   rw[chg_bad1 h0] at hq
   subst hq
   rw[h0] at htk
   have HTK:=Lib.hid htk
   clear h0 htk
   go_enter Tryz.func143,Tryz.ntmps143
   go_wp2_with fail
   refine HTK.out.mono ?_
   rintro e w1 ⟨rfl,hm⟩
   have HM:=Lib.hid hm
   clear hm
   go_wp2_with fail
   exact⟨rfl,rfl,(MT.ofBelow HB0.out).trans (HM.out.wide (by simp))⟩
 | ok t c1 =>
   rw[h0] at htk
   have HTK:=Lib.hid htk
   have H0:=Lib.hid h0
   have hl1:=tk_less _ _ _ _ _ h0
   clear htk h0
   go_enter Tryz.func143,Tryz.ntmps143
   go_wp2_with fail
   refine HTK.out.mono ?_
   rintro e w1 ⟨v,rfl,⟨rfl,hr1⟩,hm1⟩
   have m1:MT (n+3) [213] w w1:=(MT.ofBelow HB0.out).trans hm1
   have hob1:=HOB.out.mt m1 (by decide)
   have hnb1:=HNB.out.mt m1 (by decide)
   have o0:=hob1.cell 0
   have of0:=hob1.frozen 0
   have n0:=hnb1.cell 0
   have hol1:=hob1.lt
   have hnl1:=hnb1.lt
   simp only[List.getElem?_toArray,List.getElem?_cons_zero] at o0 n0
   have HI1:=Lib.hid (show InB w1 b r from Blk.mt HI.out m1 (by decide))
   have HOB1:=Lib.hid hob1
   have HNB1:=Lib.hid hnb1
   have HOWN1:=Lib.hid (m1.ownsRow HOWN.out (by decide))
   have HALL1:=Lib.hid (HALL.out.mono fun q a hh=>hh.mt m1 (by decide))
   have HZ1:=Lib.hid (ZB.out.mt hm1 (by decide))
   have HR1:=Lib.hid hr1
   have HM1:=Lib.hid m1
   have hzl1:=HZ1.out.lt
   clear m1 hob1 hnb1 hr1 hm1 HTK HI HOB HNB HOWN HALL ZB HB0
   unfold Tok.v
   by_cases hL:L=256
   case' pos =>
    have hov1:overP xs = -1:=overB_few (by rw[HL.out];omega)
    have hsn:overP (xs++[chgOf t t []])=t.p:=by rw[overB_snoc,HL.out,if_pos hL];rfl
    rw[hov1] at o0 HOB1
    have hLd:((L:Int) == 256)=true:=by simp [hL]
    clear hL
    have ms:MT (n+3) [3] w1 ((w1.setCell ⟨ov,0,none⟩ (.int .i64 t.p)).alloc (.cells #[.int .i64 t.k,.string ⟨t.x.toArray⟩,.int .i64 t.vk,.int .i64 t.vn,.string ⟨t.vt.toArray⟩,.int .i64 t.p] 122)):=(MT.setCell (MT.refl w1) HOB1.out (by simp) hov _).alloc _
    have ob2:=(HOB1.out.set_ 0 (.int .i64 t.p)).alloc (.cells #[.int .i64 t.k,.string ⟨t.x.toArray⟩,.int .i64 t.vk,.int .i64 t.vn,.string ⟨t.vt.toArray⟩,.int .i64 t.p] 122)
    simp only[Array.setIfInBounds] at ob2
    have HOBX:Hid (Blk _ ov 3 #[.int .i64 (overP (xs++[chgOf t t []]))]):=Lib.hid (by rw[hsn];simpa using ob2)
    have hta:=blkNewS w1 ⟨ov,0,none⟩ (.int .i64 t.p) 122 #[.int .i64 t.k,.string ⟨t.x.toArray⟩,.int .i64 t.vk,.int .i64 t.vn,.string ⟨t.vt.toArray⟩,.int .i64 t.p]
    have HTA:=Lib.hid hta
    obtain⟨wx,hwx⟩:∃ wx,(w1.setCell ⟨ov,0,none⟩ (.int .i64 t.p)).alloc (.cells #[.int .i64 t.k,.string ⟨t.x.toArray⟩,.int .i64 t.vk,.int .i64 t.vn,.string ⟨t.vt.toArray⟩,.int .i64 t.p] 122)=wx:=⟨_,rfl⟩
    rw[hwx] at ms HOBX HTA
    have HMS:=Lib.hid ms
    have HWX:=Lib.hid hwx
    clear ms ob2 hta hwx hsn hov1
    go_wp2_with fail
    rw[HWX.out]
   case' neg =>
    have hLd:((L:Int) == 256)=false:=by simpa using fun e=>hL (by omega)
    have hsn:overP (xs++[chgOf t t []])=overP xs:=by rw[overB_snoc,HL.out,if_neg hL]
    have bk:=balloc (Below.refl _ w1) (.cells #[.int .i64 t.k,.string ⟨t.x.toArray⟩,.int .i64 t.vk,.int .i64 t.vn,.string ⟨t.vt.toArray⟩,.int .i64 t.p] 122)
    have ob:=HOB1.out.alloc (.cells #[.int .i64 t.k,.string ⟨t.x.toArray⟩,.int .i64 t.vk,.int .i64 t.vn,.string ⟨t.vt.toArray⟩,.int .i64 t.p] 122)
    rw[<-hsn] at ob
    have HOBX:=Lib.hid ob
    have HTA:=Lib.hid (Blk.new w1 122 #[.int .i64 t.k,.string ⟨t.x.toArray⟩,.int .i64 t.vk,.int .i64 t.vn,.string ⟨t.vt.toArray⟩,.int .i64 t.p])
    have ms:MT (n+3) [3] w1 (w1.alloc (.cells #[.int .i64 t.k,.string ⟨t.x.toArray⟩,.int .i64 t.vk,.int .i64 t.vn,.string ⟨t.vt.toArray⟩,.int .i64 t.p] 122)):=MT.ofBelow bk
    obtain⟨wx,hwx⟩:∃ wx,w1.alloc (.cells #[.int .i64 t.k,.string ⟨t.x.toArray⟩,.int .i64 t.vk,.int .i64 t.vn,.string ⟨t.vt.toArray⟩,.int .i64 t.p] 122)=wx:=⟨_,rfl⟩
    rw[hwx] at ms HOBX HTA
    have HMS:=Lib.hid ms
    have HWX:=Lib.hid hwx
    clear bk ob ms hwx hsn
    go_wp2_with fail
    rw[HWX.out]
   all_goals
    have hix:InB wx b r:=Blk.mt HI1.out HMS.out (by decide)
    have x0:=Blk.cell hix 0
    have xl:=Blk.lt hix
    have d1:=HTA.out.cell 1
    have dl:=HTA.out.lt
    simp only[List.getElem?_toArray,List.getElem?_cons_zero,List.getElem?_cons_succ] at x0 d1
    have HIX:=Lib.hid hix
    have HNX:=Lib.hid (HNB1.out.mt HMS.out (by decide))
    have HOX:=Lib.hid (HMS.out.ownsRow HOWN1.out (by decide))
    have HAX:=Lib.hid (HALL1.out.mono fun q a hh=>hh.mt HMS.out (by decide))
    have HZX:=Lib.hid (HZ1.out.mt HMS.out (by decide))
    have HRX:=Lib.hid (HR1.out.mt HMS.out (by decide) (by decide))
    have HMX:=Lib.hid ((HM1.out.wide (Ts':=[213,3]) (by simp)).trans (HMS.out.wide (by simp)))
    have hwx1:=HMX.out.size
    have HMX1:=Lib.hid hwx1
    have HDL:=Lib.hid dl
    have HZL:=Lib.hid hzl1
    obtain⟨sb,hsb⟩:∃ sb,(t.x == [43])=sb:=⟨_,rfl⟩
    have HSB:=Lib.hid hsb
    have htk:=fun W hW=>take_rs (B:=n+3) (Ts:=[213]) (HRX.out.keep (w':=W) hW) 1 [] _ (tx_nil _) hB (by simp)
    clear hix o0 of0 n0 hol1 hnl1 HI1 HOB1 HNB1 HOWN1 HALL1 HZ1 HR1 HM1 HMS HRX HWX
    cases h1:tk 1 [] c1 with
    | bad a e =>
      have hq:=HQ.out
      rw[chg_bad2 H0.out h1] at hq
      subst hq
      rw[h1] at htk
      have HTK:=Lib.hid htk
      clear h1 htk
      go_region_dies
      all_goals
       refine (HTK.out _ (by first | exact bdrew (Below.refl _ _) | exact balloc (bdrew (Below.refl _ _)) _)).mono ?_
       rintro e w5 ⟨rfl,hm5⟩
       have HM5:=Lib.hid (HMX.out.trans (MT.trans (by first | exact MT.ofBelow (bdrew (Below.refl _ _)) | exact MT.ofBelow (balloc (bdrew (Below.refl _ _)) _)) (hm5.wide (by simp))))
       clear hm5
       go_wp2_with fail
       exact⟨rfl,rfl,HM5.out⟩
    | ok u c2 =>
      rw[h1] at htk
      have HTK:=Lib.hid htk
      have H1:=Lib.hid h1
      have hl2:=tk_less _ _ _ _ _ h1
      clear h1 htk
      go_cut [5] from 18 to 24 (fun s5 wy=>∃ y,s5=.pointer (some ⟨y,0,none⟩)/\Hid (Blk wy y 68 #[.bool sb,.string ⟨u.x.toArray⟩,.slice none 0 0])/\Hid (Rs wy r c2 vt)/\Hid (MT (n+3) [213] wx wy)/\wx.heap.size<=y)
      case first =>
       go_region_law (first
        | (go_simp;go_at_call 57;refine (HTK.out _ (bdrew (balloc (Below.refl _ _) (.cells #[.bool false,.string ⟨#[]⟩,.slice none 0 0] 68)))).mono ?_;rintro e w5 ⟨v5,rfl,⟨rfl,hr5⟩,hm5⟩;have m5:MT (n+3) [213] wx w5:=MT.trans (MT.ofBelow (bdrew (balloc (Below.refl _ _) (.cells #[.bool false,.string ⟨#[]⟩,.slice none 0 0] 68)))) hm5;have yb:=(Blk.new wx 68 #[.bool false,.string ⟨#[]⟩,.slice none 0 0]).drew.mt hm5 (by decide);have y0:=yb.cell 0;have y1:=yb.cell 1;have y2:=yb.cell 2;have g0:=yb.frozen 0;have g1:=yb.frozen 1;have g2:=yb.frozen 2;have yl:=yb.lt;have ta5:=HTA.out.mt m5 (by decide);have d15:=ta5.cell 1;have dl5:=ta5.lt;simp only[List.getElem?_toArray,List.getElem?_cons_zero,List.getElem?_cons_succ] at y0 y1 y2 d15;have HYB:=Lib.hid yb;have HR5:=Lib.hid hr5;have HM5:=Lib.hid m5;unfold Tok.v;clear yb ta5 hr5 hm5 m5)
        | (go_simp;go_at_call 57;refine (HTK.out _ (bdrew (Below.refl _ _))).mono ?_;rintro e w5 ⟨v5,rfl,⟨rfl,hr5⟩,hm5⟩;have m5:MT (n+3) [213] wx w5:=MT.trans (MT.ofBelow (bdrew (Below.refl _ _))) hm5;have ta5:=HTA.out.mt m5 (by decide);have d15:=ta5.cell 1;have dl5:=ta5.lt;simp only[List.getElem?_toArray,List.getElem?_cons_zero,List.getElem?_cons_succ] at d15;have HR5:=Lib.hid hr5;have HM5:=Lib.hid m5;unfold Tok.v;clear ta5 hr5 hm5 m5))
       all_goals
        go_wp2_with fail
        go_meet
        first
         | (have hs3:=set3_facts (a:=.bool sb) (b:=.string ⟨u.x.toArray⟩) (c:=.slice none 0 0) HYB.out
            exact⟨_,rfl,Lib.hid hs3.1,Lib.hid (HR5.out.mt hs3.2.1 (by decide) (by decide)),Lib.hid (HM5.out.own (((Mod.refl (fun k=>k=wx.heap.size) w5).setCell (p:=⟨wx.heap.size,0,none⟩) (fun _=>rfl) _ |>.setCell (p:=⟨wx.heap.size,1,none⟩) (fun _=>rfl) _).setCell (p:=⟨wx.heap.size,2,none⟩) (fun _=>rfl) _) (Nat.le_refl _)),Nat.le_refl _⟩)
         | exact⟨_,rfl,Lib.hid (Blk.new _ _ _),Lib.hid (HR5.out.keep (balloc (Below.refl _ _) _)),Lib.hid (HM5.out.alloc _),HM5.out.size⟩
      case rest =>
       obtain⟨y,rfl,HY,HRY,HMY,hy⟩:=hcut
       have hiy:InB wc b r:=Blk.mt HIX.out HMY.out (by decide)
       have x0y:=Blk.cell hiy 0
       have xly:=Blk.lt hiy
       simp only[List.getElem?_toArray,List.getElem?_cons_zero] at x0y
       have hwy1:=HMY.out.size
       have hvs:=vals_any (B:=n+3) hiy HRY.out hB (by omega)
       have HIY:=Lib.hid hiy
       have HOBY:=Lib.hid (HOBX.out.mt HMY.out (by decide))
       have HNY:=Lib.hid (HNX.out.mt HMY.out (by decide))
       have HOY:=Lib.hid (HMY.out.ownsRow HOX.out (by decide))
       have HAY:=Lib.hid (HAX.out.mono fun q a hh=>hh.mt HMY.out (by decide))
       have HZY:=Lib.hid (HZX.out.mt HMY.out (by decide))
       have HMW:=Lib.hid (HMX.out.trans (HMY.out.wide (by simp)))
       have hyl0:=HY.out.lt
       clear hiy x0 xl d1 dl HIX HOBX HNX HOX HAX HZX HMX HTA HRY HMY HTK
       cases h2:listP litP c2 with
       | bad a e =>
         have hq:=HQ.out
         rw[chg_bad3 H0.out H1.out h2] at hq
         subst hq
         rw[h2] at hvs
         have HVS:=Lib.hid hvs
         clear h2 hvs
         go_wp2_with fail
         refine HVS.out.mono ?_
         rintro e w7 ⟨rfl,hm7⟩
         have HM7:=Lib.hid (HMW.out.trans (hm7.wide (by simp)))
         clear hm7
         go_wp2_with fail
         exact⟨rfl,rfl,HM7.out⟩
       | ok l c3 =>
         have hq:=HQ.out
         rw[chg_ok H0.out H1.out h2] at hq
         rw[h2] at hvs
         have HQ2:=Lib.hid hq
         have HVS:=Lib.hid hvs
         clear h2 hvs hq
         go_wp2_with fail
         refine HVS.out.mono ?_
         rintro e w7 ⟨v7,rfl,⟨hrow7,hi7,hr7⟩,hm7⟩
         obtain⟨la,lc,rfl⟩:=own_sl hrow7
         have yb7:=HY.out.mt hm7 (by decide)
         have y2:=yb7.cell 2
         have g2:=yb7.frozen 2
         have yl:=yb7.lt
         have hs7:=hm7.size
         have hny:n≠y:=by omega
         have hny':y≠n:=by omega
         have nb7:=HNY.out.mt hm7 (by decide)
         have n0:=nb7.cell 0
         have nl:=nb7.lt
         simp only[List.getElem?_toArray,List.getElem?_cons_zero,List.getElem?_cons_succ] at y2 n0
         have yb8:=yb7.set_ 2 (.slice la l.length lc)
         simp only[Array.setIfInBounds] at yb8
         have m8:MT 0 [68] w7 (w7.setCell ⟨y,2,none⟩ (.slice la l.length lc)):=MT.setCell (MT.refl w7) yb7 (by simp) (Nat.zero_le _) _
         have hmo:Mod (fun k=>k=y) w7 (w7.setCell ⟨y,2,none⟩ (.slice la l.length lc)):=(Mod.refl (fun k=>k=y) w7).setCell (p:=⟨y,2,none⟩) (fun _=>rfl) _
         have M8:=Lib.hid (show MT (n+3) [213,3] w (w7.setCell ⟨y,2,none⟩ (.slice la l.length lc)) from (HMW.out.trans (hm7.wide (by simp))).own hmo (by have:=HMX1.out;omega))
         have hyx:w.heap.size<y:=by have:=HDL.out;have:=HZL.out;omega
         have ho8:=hmo.ownsRow (hm7.ownsRow HOY.out (by decide)) (fun k hk=>by have:=HLT.out k hk;omega)
         have HO8:=Lib.hid ho8
         have HY8:Hid (Blk (w7.setCell ⟨y,2,none⟩ (.slice la l.length lc)) y 68 #[.bool sb,.string ⟨u.x.toArray⟩,.slice la l.length lc]):=Lib.hid (by simpa using yb8)
         have y0:=yb7.cell 0
         have y1:=yb7.cell 1
         simp only[List.getElem?_toArray,List.getElem?_cons_zero,List.getElem?_cons_succ] at y0 y1
         have HI8:=Lib.hid (show InB _ b r from Blk.mt hi7 m8 (by decide))
         have HR8:=Lib.hid (hr7.mt m8 (by decide) (by decide))
         have HOB8:=Lib.hid ((HOBY.out.mt hm7 (by decide)).mt m8 (by decide))
         have HN8:=Lib.hid (nb7.mt m8 (by decide))
         have HA8:=Lib.hid (HAY.out.mono fun q a hh=>(hh.mt hm7 (by decide)).mt m8 (by decide))
         have HZ8:=Lib.hid ((HZY.out.mt hm7 (by decide)).far (p:=⟨y,2,none⟩) (show w.heap.size≠y by omega) (.slice la l.length lc))
         have HRW8:=Lib.hid (m8.ownsRow (World.ownsRow.low hrow7 (show B<=wc.heap.size by omega)) (by decide))
         have hsz7:w.heap.size<=w7.heap.size:=by omega
         have hly:l.length<=l.length:=Nat.le_refl _
         clear hrow7 hi7 hr7 hm7 yb7 nb7 yb8 m8 hmo ho8 HY HIY HOBY HNY HOY HAY HZY HVS
         generalize hly2:l.length=ln at *
         have HLN:=Lib.hid hly2
         clear hly2 hly
         go_wp2_with (at_builtin;refine wpList_append_lies _ rfl (.tmp 29) (.tmp 31) 53 rfl B 68 ic (.agg #[.bool false,.string ⟨#[]⟩,.slice none 0 0]) 3 48 Tryz.underlying53 hic hc0 hc1 hc2 rfl (by decide) (.slice ba L bc) L _ rfl (HO8.out.alloc _) ⟨_,0,none⟩ 1 1 [.bool sb,.string ⟨u.x.toArray⟩,.slice la ln lc] rfl rfl (World.news_of_block (blkNewS _ _ _ _ _)) (by simp [Value.oneCell']) (by decide) ?c3 ?c5 ?c4 _ rfl ?_)
         case c3=>unfold maxLen;omega
         case c5=>omega
         case c4=>simp;omega
         intro g cap1 w9 hown9 hgrow9 hat9 hlt9
         have hyo:(Value.slice ba L bc).ownBlock≠some y:=fun e=>by have:=HLT.out _ e;omega
         have hzo:(Value.slice ba L bc).ownBlock≠some w.heap.size:=fun e=>by have:=HLT.out _ e;omega
         have m9:MT 0 [68] _ w9:=((MT.refl _).alloc _).grown hgrow9 (HO8.out.alloc _) (by simp) (Nat.zero_le _)
         have yb9:=(HY8.out.alloc _).grown hgrow9 (fun e=>hyo e.symm)
         have zb9:=(HZ8.out.alloc _).grown hgrow9 (fun e=>hzo e.symm)
         have nb9:=HN8.out.mt m9 (by decide)
         have n0:=nb9.cell 0
         have nf:=nb9.frozen 0
         have nl:=nb9.lt
         have y0:=yb9.cell 0
         have y1:=yb9.cell 1
         have y2:=yb9.cell 2
         have yl:=yb9.lt
         simp only[List.getElem?_toArray,List.getElem?_cons_zero,List.getElem?_cons_succ] at n0 y0 y1 y2
         have m10:MT 0 [53] w9 (w9.setCell ⟨n,0,none⟩ (.slice (some ⟨g,0,none⟩) (L+1) cap1)):=MT.setCell (MT.refl w9) nb9 (by simp) (Nat.zero_le _) _
         have zb10:=zb9.far (p:=⟨n,0,none⟩) (show w.heap.size≠n by omega) (.slice (some ⟨g,0,none⟩) (L+1) cap1)
         have nb10:=nb9.set_ 0 (.slice (some ⟨g,0,none⟩) (L+1) cap1)
         simp only[Array.setIfInBounds] at nb10
         have HN10:Hid (Blk _ n 53 #[.slice (some ⟨g,0,none⟩) (L+1) cap1]):=Lib.hid (by simpa using nb10)
         have HZ10:=Lib.hid zb10
         have HO10:=Lib.hid (m10.ownsRow hown9 (by decide))
         have mm:MT 0 [68,53] _ (w9.setCell ⟨n,0,none⟩ (.slice (some ⟨g,0,none⟩) (L+1) cap1)):=(m9.wide (by simp)).trans (m10.wide (by simp))
         have HMF:Hid (Mod (F1 n w (.slice ba L bc)) w (w9.setCell ⟨n,0,none⟩ (.slice (some ⟨g,0,none⟩) (L+1) cap1))):=Lib.hid ((((Mod.mono (G:=F1 n w (.slice ba L bc)) M8.out (fun i _ h=>.inr (.inl h))).alloc _).grown hgrow9 (fun k hk _=>.inr (.inr hk))).setCell (p:=⟨n,0,none⟩) (fun _=>.inl rfl) _)
         have hgz:g≠w.heap.size/\((Value.slice ba L bc).ownBlock=some g∨w.heap.size<=g):=by
          rcases hat9 with h9 | h9
          ·exact⟨fun e=>hzo (e ▸ h9),.inl h9⟩
          ·have:g=w7.heap.size+1:=by first | exact h9 | (rw[h9])
           exact⟨by omega,.inr (by omega)⟩
         have HGZ:=Lib.hid hgz
         have HMM:=Lib.hid mm
         clear hown9 hgrow9 hat9 hlt9 hyo hzo m9 yb9 zb9 nb9 m10 zb10 nb10 mm hgz
         go_wp2_with (refine wpList_store_blk rfl 68 _ _ rfl w.heap.size 68 _ _ rfl rfl HZ10.out (by kernel_rfl) rfl (by simp [Value.oneCell']) ?_)
         intro w11 hb11 hm11 hz11
         have r0:=hb11.cell 0
         have r1:=hb11.cell 1
         have r2:=hb11.cell 2
         simp only[List.getElem?_toArray,List.getElem?_cons_zero,List.getElem?_cons_succ] at r0 r1 r2
         have m11:MT 0 [68] _ w11:=MT.ofMod hm11 HZ10.out (by simp) (Nat.zero_le _)
         have mall:=HMM.out.trans (m11.wide (Ts':=[68,53]) (by simp))
         have hsd:sb=decide (t.x=[43]):=by
          rw[<-HSB.out,Bool.eq_iff_iff]
          simp
         have hfin:CPost B n b r ov vt w (.slice ba L bc) xs (.ok (chgOf t u l) c3) (.returned (.agg #[.bool sb,.string ⟨u.x.toArray⟩,.slice la ln lc])) w11:=by
          refine⟨.slice (some ⟨g,0,none⟩) (L+1) cap1,.slice la ln lc,by rw[hsd];rfl,rfl,⟨Blk.mt HI8.out mall (by decide),?_,HN10.out.mod hm11 (fun e=>by omega),?_⟩,HR8.out.mt mall (by decide) (by decide),HMF.out.trans hm11 (fun i hi e=>by omega),?_⟩
          ·rw[show overP (xs++[chgOf t u l])=overP (xs++[chgOf t t []]) from overB_same rfl]
           exact HOB8.out.mt mall (by decide)
          ·rw[List.map_append]
           refine chgs_snoc (x:=(chgOf t u l).1) (rv:=.slice la ln lc) (by rw[List.length_map,HL.out]) ?_ (HA8.out.mono fun q a hh=>hh.mt mall (by decide)) ?_
           ·have:=hm11.ownsRow HO10.out (fun k hk=>by simp [Value.ownBlock] at hk;subst hk;exact HGZ.out.1)
            rw[hsd] at this
            exact this
           ·have:=mall.ownsRow HRW8.out (by decide)
            rw[<-HLN.out] at this ⊢
            exact this
          ·intro k hk
           simp [Value.ownBlock] at hk
           subst hk
           exact HGZ.out.2
         have HFIN:=Lib.hid hfin
         have hq:=HQ2.out
         subst hq
         clear hb11 hm11 hz11 m11 mall hfin
         go_wp2_with fail
         exact bodyPost_ret (v:=.agg #[.bool sb,.string ⟨u.x.toArray⟩,.slice la ln lc]) (by simp [results,Tryz.results143,go_sem, *]) rfl HFIN.out
end Go.Proofs.YtgopfpjinohncaaGreatDoor
