/- query.name, query.term and the closures that call them, walked. The lists of a query's names and terms, read. -/
import Derived.Test.YtamjadghncnbcaaGreatDoorGaW
import Derived.Test.YtamjadghncnbcaaGreatDoorSmW
namespace Go.Proofs.YtamjadghncnbcaaGreatDoor
open Go.RowKit
set_option linter.unusedVariables false
def nameV (x:List UInt8 × Int):List Value:=[.string ⟨x.1.toArray⟩,.int .i64 x.2]
def termV (x:Trm × Int):List Value:=[.string ⟨x.1.x.toArray⟩,.int .i64 x.1.k,.int .i64 x.1.n,.string ⟨x.1.t.toArray⟩,.int .i64 x.2]
theorem tx_nil (w:World):TX w (.slice none 0 0) []:=⟨by simp,none,0,rfl,.inl rfl⟩
theorem name_bad {c:List Tok} {a e:Int} (h:tk 1 [] c=.bad a e):nameP c=.bad a e:=by
 unfold nameP
 rw[h]
theorem name_ok {c c1:List Tok} {t:Tok} (h:tk 1 [] c=.ok t c1):nameP c=.ok (t.x,t.p) c1:=by
 unfold nameP
 rw[h]
set_option maxHeartbeats 4000000 in
set_option maxRecDepth 100000 in
theorem name_any {w:World} {r:Nat} {c:List Tok} {vt:Value} {B:Nat} (h:Rs w r c vt) (hB:B<=r) :
 Calls Tryz.prog 81 #[.pointer (some ⟨r,0,none⟩)] w (PPost (fun x c' v w'=>v=.agg (nameV x).toArray/\Rs w' r c' vt) B [177] w (nameP c)):=by
 have hb0:Below w.heap.size w (w.alloc (.cells #[.string ⟨#[]⟩,.int .i64 0] 135)):=balloc (Below.refl _ _) _
 have htk:=take_rs (B:=B) (Ts:=[177]) (h.keep hb0) 1 [] _ (tx_nil _) hB (by simp)
 have zb:=Blk.new w 135 #[.string ⟨#[]⟩,.int .i64 0]
 have hrl:=h.lt
 have HB0:=Lib.hid hb0
 have ZB:=Lib.hid zb
 clear h hb0 zb
 cases h0:tk 1 [] c with
 | bad a e =>
   rw[name_bad h0]
   rw[h0] at htk
   have HTK:=Lib.hid htk
   clear h0 htk
   go_enter Tryz.func81,Tryz.ntmps81
   go_wp2_with fail
   refine HTK.out.mono ?_
   rintro e w1 ⟨rfl,hm⟩
   have HM:=Lib.hid hm
   clear hm
   go_wp2_with fail
   exact⟨rfl,ppost_bad ((MT.ofBelow HB0.out).trans HM.out)⟩
 | ok t c1 =>
   rw[name_ok h0]
   rw[h0] at htk
   have HTK:=Lib.hid htk
   clear h0 htk
   go_enter Tryz.func81,Tryz.ntmps81
   go_wp2_with fail
   refine HTK.out.mono ?_
   rintro e w1 ⟨v,rfl,⟨rfl,hr1⟩,hm⟩
   have zb1:=ZB.out.mt hm (by decide)
   have hlt:=zb1.lt
   have ZB1:=Lib.hid zb1
   have HM:=Lib.hid hm
   have HR1:=Lib.hid hr1
   clear zb1 hm hr1
   unfold Tok.v
   go_wp2_with (refine wpList_store_blk rfl 135 _ _ rfl w.heap.size 135 _ _ rfl rfl (ZB1.out.alloc _) (by kernel_rfl) rfl (by simp [Value.oneCell']) ?_)
   intro w2 hb2 hm2 hz2
   have r0:=hb2.cell 0
   have r1:=hb2.cell 1
   simp only[List.getElem?_toArray,List.getElem?_cons_zero,List.getElem?_cons_succ] at r0 r1
   have HM2:=Lib.hid ((((MT.ofBelow HB0.out).trans HM.out).alloc (.cells #[.int .i64 t.k,.string ⟨t.x.toArray⟩,.int .i64 t.vk,.int .i64 t.vn,.string ⟨t.vt.toArray⟩,.int .i64 t.p] 84)).own hm2 (Nat.le_refl _))
   have HR2:=Lib.hid ((HR1.out.keep (balloc (Below.refl _ _) _)).mt (MT.ofMod (B:=0) (Ts:=[135]) hm2 (ZB1.out.alloc _) (by simp) (Nat.zero_le _)) (by decide) (by decide))
   clear hb2 hm2 hz2
   go_wp2_with fail
   exact bodyPost_ret (v:=.agg #[.string ⟨t.x.toArray⟩,.int .i64 t.p]) (by simp [results,Tryz.results81,go_sem, *]) rfl ⟨_,rfl,⟨rfl,HR2.out⟩,HM2.out⟩
theorem term_lit_ok {c c1:List Tok} {t:Tok} (hl:litT c=true) (h:tk 2 [] c=.ok t c1):termP c=.ok (⟨[],t.vk,t.vn,t.vt⟩,t.p) c1:=by
 unfold termP
 rw[if_pos hl,h]
theorem term_var_bad {c:List Tok} {a e:Int} (hl:litT c=false) (h:tk 1 [] c=.bad a e):termP c=.bad a e:=by
 unfold termP
 rw[if_neg (by rw[hl];simp),h]
theorem term_var_ok {c c1:List Tok} {t:Tok} (hl:litT c=false) (h:tk 1 [] c=.ok t c1):termP c=.ok (⟨t.x,0,0,[]⟩,t.p) c1:=by
 unfold termP
 rw[if_neg (by rw[hl];simp),h]
theorem tk_head {k:Int} {t u:Tok} {c c1:List Tok} (h:tk k [] (t::c)=.ok u c1):u=t:=by
 by_cases hf:t.k=k/\(([]:List (List UInt8))=[]∨t.x∈([]:List (List UInt8)))
 ·have e:tk k [] (t::c)=.ok t (if k=0 then t::c else c):=if_pos hf
  rw[e] at h
  cases h
  rfl
 ·have e:tk k [] (t::c)=.bad t.p 80:=if_neg hf
  rw[e] at h
  cases h
theorem lit_tk {t:Tok} {c:List Tok} (h:t.k=2):tk 2 [] (t::c)=.ok t c:=by
 have e:tk 2 [] (t::c)=.ok t (if (2:Int)=0 then t::c else c):=if_pos ⟨h,.inl rfl⟩
 rw[e]
 rfl
set_option maxHeartbeats 8000000 in
set_option maxRecDepth 100000 in
theorem term_any {w:World} {r:Nat} {c:List Tok} {vt:Value} {B:Nat} (h:Rs w r c vt) (hB:B<=r) :
 Calls Tryz.prog 89 #[.pointer (some ⟨r,0,none⟩)] w (PPost (fun x c' v w'=>v=.agg (termV x).toArray/\Rs w' r c' vt) B [177] w (termP c)):=by
 obtain⟨t,c0,rfl⟩:=h.ended.some
 have hb0:Below w.heap.size w (w.alloc (.cells #[.string ⟨#[]⟩,.int .i64 0,.int .i64 0,.string ⟨#[]⟩,.int .i64 0] 148)):=balloc (Below.refl _ _) _
 have zb:=Blk.new w 148 #[.string ⟨#[]⟩,.int .i64 0,.int .i64 0,.string ⟨#[]⟩,.int .i64 0]
 have hpk:=peek_rs (h.keep hb0)
 have hrl:=h.lt
 have HR0:=Lib.hid (h.keep hb0)
 have HB0:=Lib.hid hb0
 have ZB:=Lib.hid zb
 have HPK:=Lib.hid hpk
 clear h hb0 zb hpk
 by_cases hk:t.k=2
 ·have q1:(t.k == 2)=true:=by simpa using hk
  rw[term_lit_ok (by simpa [litT] using hk) (lit_tk hk)]
  have HK:=Lib.hid hk
  clear hk
  go_enter Tryz.func89,Tryz.ntmps89
  go_wp2_with fail
  refine HPK.out.mono ?_
  rintro e w1 ⟨rfl,hb1⟩
  have htk:=take_rs (B:=B) (Ts:=[177]) (HR0.out.keep (hb1.trans ((balloc (Below.refl _ _) (.cells #[.int .i64 t.k,.string ⟨t.x.toArray⟩,.int .i64 t.vk,.int .i64 t.vn,.string ⟨t.vt.toArray⟩,.int .i64 t.p] 84)).mono hb1.size))) 2 [] _ (tx_nil _) hB (by simp)
  rw[lit_tk HK.out] at htk
  have tb:=Blk.new w1 84 #[.int .i64 t.k,.string ⟨t.x.toArray⟩,.int .i64 t.vk,.int .i64 t.vn,.string ⟨t.vt.toArray⟩,.int .i64 t.p]
  have zb1:=(ZB.out.below hb1 (by simp)).alloc (.cells #[.int .i64 t.k,.string ⟨t.x.toArray⟩,.int .i64 t.vk,.int .i64 t.vn,.string ⟨t.vt.toArray⟩,.int .i64 t.p] 84)
  have hm1:=(HB0.out.trans (hb1.mono (by simp))).alloc (by have:=hb1.size;simp at this;omega) (.cells #[.int .i64 t.k,.string ⟨t.x.toArray⟩,.int .i64 t.vk,.int .i64 t.vn,.string ⟨t.vt.toArray⟩,.int .i64 t.p] 84)
  have HTK:=Lib.hid htk
  have TB:=Lib.hid tb
  have ZB1:=Lib.hid zb1
  have HM1:=Lib.hid hm1
  clear htk tb zb1 hm1 hb1
  unfold Tok.v
  go_wp2_with fail
  refine HTK.out.mono ?_
  rintro e w2 ⟨v,rfl,⟨rfl,hr2⟩,hm2⟩
  have zb2:=ZB1.out.mt hm2 (by decide)
  have tb2:=TB.out.mt hm2 (by decide)
  have hlt:=zb2.lt
  have hlt2:=tb2.lt
  have t0:=tb2.cell 0
  have t1:=tb2.cell 1
  have t2:=tb2.cell 2
  have t3:=tb2.cell 3
  have t4:=tb2.cell 4
  have t5:=tb2.cell 5
  simp only[List.getElem?_toArray,List.getElem?_cons_zero,List.getElem?_cons_succ] at t0 t1 t2 t3 t4 t5
  have ZB2:=Lib.hid zb2
  have HM2:=Lib.hid ((MT.ofBelow (B:=B) (Ts:=[177]) HM1.out).trans hm2)
  have HR2:=Lib.hid hr2
  clear zb2 tb2 hm2 hr2
  unfold Tok.v
  go_wp2_with (refine wpList_store_blk rfl 148 _ _ rfl w.heap.size 148 _ _ rfl rfl ZB2.out (by kernel_rfl) rfl (by simp [Value.oneCell']) ?_)
  intro w3 hb3 hm3 hz3
  have r0:=hb3.cell 0
  have r1:=hb3.cell 1
  have r2:=hb3.cell 2
  have r3:=hb3.cell 3
  have r4:=hb3.cell 4
  simp only[List.getElem?_toArray,List.getElem?_cons_zero,List.getElem?_cons_succ] at r0 r1 r2 r3 r4
  have HM3:=Lib.hid (HM2.out.own hm3 (Nat.le_refl _))
  have HR3:=Lib.hid (HR2.out.mt (MT.ofMod (B:=0) (Ts:=[148]) hm3 ZB2.out (by simp) (Nat.zero_le _)) (by decide) (by decide))
  clear hb3 hm3 hz3
  go_wp2_with fail
  exact bodyPost_ret (v:=.agg #[.string ⟨#[]⟩,.int .i64 t.vk,.int .i64 t.vn,.string ⟨t.vt.toArray⟩,.int .i64 t.p]) (by simp [results,Tryz.results89,go_sem, *]) rfl ⟨_,rfl,⟨rfl,HR3.out⟩,HM3.out⟩
 ·have q1:(t.k == 2)=false:=by simpa using hk
  have hlf:litT (t::c0)=false:=by simpa [litT] using hk
  clear hk
  cases h0:tk 1 [] (t::c0) with
  | bad a e0 =>
    rw[term_var_bad hlf h0]
    have H0:=Lib.hid h0
    clear h0 hlf
    go_enter Tryz.func89,Tryz.ntmps89
    go_wp2_with fail
    refine HPK.out.mono ?_
    rintro e w1 ⟨rfl,hb1⟩
    have htk:=take_rs (B:=B) (Ts:=[177]) (HR0.out.keep (hb1.trans ((balloc (Below.refl _ _) (.cells #[.int .i64 t.k,.string ⟨t.x.toArray⟩,.int .i64 t.vk,.int .i64 t.vn,.string ⟨t.vt.toArray⟩,.int .i64 t.p] 84)).mono hb1.size))) 1 [] _ (tx_nil _) hB (by simp)
    rw[H0.out] at htk
    have hm1:=(HB0.out.trans (hb1.mono (by simp))).alloc (by have:=hb1.size;simp at this;omega) (.cells #[.int .i64 t.k,.string ⟨t.x.toArray⟩,.int .i64 t.vk,.int .i64 t.vn,.string ⟨t.vt.toArray⟩,.int .i64 t.p] 84)
    have HTK:=Lib.hid htk
    have HM1:=Lib.hid hm1
    clear htk hm1 hb1
    unfold Tok.v
    go_wp2_with fail
    refine HTK.out.mono ?_
    rintro e w2 ⟨rfl,hm2⟩
    have HM2:=Lib.hid ((MT.ofBelow (B:=B) (Ts:=[177]) HM1.out).trans hm2)
    clear hm2
    go_wp2_with fail
    exact⟨rfl,ppost_bad HM2.out⟩
  | ok u c1 =>
    rw[term_var_ok hlf h0]
    obtain rfl:=tk_head h0
    have H0:=Lib.hid h0
    clear h0 hlf
    go_enter Tryz.func89,Tryz.ntmps89
    go_wp2_with fail
    refine HPK.out.mono ?_
    rintro e w1 ⟨rfl,hb1⟩
    have htk:=take_rs (B:=B) (Ts:=[177]) (HR0.out.keep (hb1.trans ((balloc (Below.refl _ _) (.cells #[.int .i64 u.k,.string ⟨u.x.toArray⟩,.int .i64 u.vk,.int .i64 u.vn,.string ⟨u.vt.toArray⟩,.int .i64 u.p] 84)).mono hb1.size))) 1 [] _ (tx_nil _) hB (by simp)
    rw[H0.out] at htk
    have tb:=Blk.new w1 84 #[.int .i64 u.k,.string ⟨u.x.toArray⟩,.int .i64 u.vk,.int .i64 u.vn,.string ⟨u.vt.toArray⟩,.int .i64 u.p]
    have zb1:=(ZB.out.below hb1 (by simp)).alloc (.cells #[.int .i64 u.k,.string ⟨u.x.toArray⟩,.int .i64 u.vk,.int .i64 u.vn,.string ⟨u.vt.toArray⟩,.int .i64 u.p] 84)
    have hm1:=(HB0.out.trans (hb1.mono (by simp))).alloc (by have:=hb1.size;simp at this;omega) (.cells #[.int .i64 u.k,.string ⟨u.x.toArray⟩,.int .i64 u.vk,.int .i64 u.vn,.string ⟨u.vt.toArray⟩,.int .i64 u.p] 84)
    have HTK:=Lib.hid htk
    have TB:=Lib.hid tb
    have ZB1:=Lib.hid zb1
    have HM1:=Lib.hid hm1
    clear htk tb zb1 hm1 hb1
    unfold Tok.v
    go_wp2_with fail
    refine HTK.out.mono ?_
    rintro e w2 ⟨v,rfl,⟨rfl,hr2⟩,hm2⟩
    have zb2:=ZB1.out.mt hm2 (by decide)
    have tb2:=TB.out.mt hm2 (by decide)
    have hlt:=zb2.lt
    have hlt2:=tb2.lt
    have t0:=tb2.cell 0
    have t1:=tb2.cell 1
    have t2:=tb2.cell 2
    have t3:=tb2.cell 3
    have t4:=tb2.cell 4
    have t5:=tb2.cell 5
    simp only[List.getElem?_toArray,List.getElem?_cons_zero,List.getElem?_cons_succ] at t0 t1 t2 t3 t4 t5
    have ZB2:=Lib.hid zb2
    have HM2:=Lib.hid ((MT.ofBelow (B:=B) (Ts:=[177]) HM1.out).trans hm2)
    have HR2:=Lib.hid hr2
    clear zb2 tb2 hm2 hr2
    unfold Tok.v
    go_wp2_with (refine wpList_store_blk rfl 148 _ _ rfl w.heap.size 148 _ _ rfl rfl ZB2.out (by kernel_rfl) rfl (by simp [Value.oneCell']) ?_)
    intro w3 hb3 hm3 hz3
    have r0:=hb3.cell 0
    have r1:=hb3.cell 1
    have r2:=hb3.cell 2
    have r3:=hb3.cell 3
    have r4:=hb3.cell 4
    simp only[List.getElem?_toArray,List.getElem?_cons_zero,List.getElem?_cons_succ] at r0 r1 r2 r3 r4
    have HM3:=Lib.hid (HM2.out.own hm3 (Nat.le_refl _))
    have HR3:=Lib.hid (HR2.out.mt (MT.ofMod (B:=0) (Ts:=[148]) hm3 ZB2.out (by simp) (Nat.zero_le _)) (by decide) (by decide))
    clear hb3 hm3 hz3
    go_wp2_with fail
    exact bodyPost_ret (v:=.agg #[.string ⟨u.x.toArray⟩,.int .i64 0,.int .i64 0,.string ⟨#[]⟩,.int .i64 u.p]) (by simp [results,Tryz.results89,go_sem, *]) rfl ⟨_,rfl,⟨rfl,HR3.out⟩,HM3.out⟩
def InB (w:World) (b r:Nat):Prop:=Blk w b 80 #[.pointer (some ⟨r,0,none⟩)]
set_option maxHeartbeats 4000000 in
set_option maxRecDepth 100000 in
theorem nameClo_any {w:World} {b r:Nat} {c:List Tok} {vt:Value} {B:Nat} (hi:InB w b r) (h:Rs w r c vt) (hB:B<=r) :
 Calls Tryz.prog 83 #[.pointer (some ⟨b,0,none⟩)] w (PPost (fun x c' v w'=>v=.agg (nameV x).toArray/\InB w' b r/\Rs w' r c' vt) B [177] w (nameP c)):=by
 have hb0:Below w.heap.size w (w.alloc (.cells #[.string ⟨#[]⟩,.int .i64 0] 135)):=balloc (Below.refl _ _) _
 have hnm:=name_any (B:=B) (h.keep hb0) hB
 have zb:=Blk.new w 135 #[.string ⟨#[]⟩,.int .i64 0]
 have hi1:InB (w.alloc (.cells #[.string ⟨#[]⟩,.int .i64 0] 135)) b r:=Blk.alloc hi _
 have x0:=Blk.cell hi 0
 have hbl:=Blk.lt hi
 simp at x0
 have HI1:=Lib.hid hi1
 have HB0:=Lib.hid hb0
 have ZB:=Lib.hid zb
 clear h hb0 zb hi hi1
 cases h0:nameP c with
 | bad a e =>
   rw[h0] at hnm
   have HNM:=Lib.hid hnm
   clear h0 hnm
   go_enter Tryz.func83,Tryz.ntmps83
   go_wp2_with fail
   refine HNM.out.mono ?_
   rintro e w1 ⟨rfl,hm⟩
   have HM:=Lib.hid hm
   clear hm
   go_wp2_with fail
   exact⟨rfl,ppost_bad ((MT.ofBelow HB0.out).trans HM.out)⟩
 | ok x c1 =>
   rw[h0] at hnm
   have HNM:=Lib.hid hnm
   clear h0 hnm
   go_enter Tryz.func83,Tryz.ntmps83
   go_wp2_with fail
   refine HNM.out.mono ?_
   rintro e w1 ⟨v,rfl,⟨rfl,hr1⟩,hm⟩
   have zb1:=ZB.out.mt hm (by decide)
   have hi2:InB w1 b r:=Blk.mt HI1.out hm (by decide)
   have hlt:=zb1.lt
   have ZB1:=Lib.hid zb1
   have HI2:=Lib.hid hi2
   have HM:=Lib.hid hm
   have HR1:=Lib.hid hr1
   clear zb1 hm hr1 hi2
   unfold nameV
   go_wp2_with (refine wpList_store_blk rfl 135 _ _ rfl w.heap.size 135 _ _ rfl rfl ZB1.out (by kernel_rfl) rfl (by simp [Value.oneCell']) ?_)
   intro w2 hb2 hm2 hz2
   have r0:=hb2.cell 0
   have r1:=hb2.cell 1
   simp only[List.getElem?_toArray,List.getElem?_cons_zero,List.getElem?_cons_succ] at r0 r1
   have mt2:MT 0 [135] w1 w2:=MT.ofMod hm2 ZB1.out (by simp) (Nat.zero_le _)
   have HM2:=Lib.hid (((MT.ofBelow HB0.out).trans HM.out).own hm2 (Nat.le_refl _))
   have HR2:=Lib.hid (HR1.out.mt mt2 (by decide) (by decide))
   have HI3:=Lib.hid (show InB w2 b r from Blk.mt HI2.out mt2 (by decide))
   clear hb2 hm2 hz2 mt2
   go_wp2_with fail
   exact bodyPost_ret (v:=.agg #[.string ⟨x.1.toArray⟩,.int .i64 x.2]) (by simp [results,Tryz.results83,go_sem, *]) rfl ⟨_,rfl,⟨rfl,HI3.out,HR2.out⟩,HM2.out⟩
set_option maxHeartbeats 4000000 in
set_option maxRecDepth 100000 in
theorem termClo_any {w:World} {b r:Nat} {c:List Tok} {vt:Value} {B:Nat} (hi:InB w b r) (h:Rs w r c vt) (hB:B<=r) :
 Calls Tryz.prog 88 #[.pointer (some ⟨b,0,none⟩)] w (PPost (fun x c' v w'=>v=.agg (termV x).toArray/\InB w' b r/\Rs w' r c' vt) B [177] w (termP c)):=by
 have hb0:Below w.heap.size w (w.alloc (.cells #[.string ⟨#[]⟩,.int .i64 0,.int .i64 0,.string ⟨#[]⟩,.int .i64 0] 148)):=balloc (Below.refl _ _) _
 have hnm:=term_any (B:=B) (h.keep hb0) hB
 have zb:=Blk.new w 148 #[.string ⟨#[]⟩,.int .i64 0,.int .i64 0,.string ⟨#[]⟩,.int .i64 0]
 have hi1:InB (w.alloc (.cells #[.string ⟨#[]⟩,.int .i64 0,.int .i64 0,.string ⟨#[]⟩,.int .i64 0] 148)) b r:=Blk.alloc hi _
 have x0:=Blk.cell hi 0
 have hbl:=Blk.lt hi
 simp at x0
 have HI1:=Lib.hid hi1
 have HB0:=Lib.hid hb0
 have ZB:=Lib.hid zb
 clear h hb0 zb hi hi1
 cases h0:termP c with
 | bad a e =>
   rw[h0] at hnm
   have HNM:=Lib.hid hnm
   clear h0 hnm
   go_enter Tryz.func88,Tryz.ntmps88
   go_wp2_with fail
   refine HNM.out.mono ?_
   rintro e w1 ⟨rfl,hm⟩
   have HM:=Lib.hid hm
   clear hm
   go_wp2_with fail
   exact⟨rfl,ppost_bad ((MT.ofBelow HB0.out).trans HM.out)⟩
 | ok x c1 =>
   rw[h0] at hnm
   have HNM:=Lib.hid hnm
   clear h0 hnm
   go_enter Tryz.func88,Tryz.ntmps88
   go_wp2_with fail
   refine HNM.out.mono ?_
   rintro e w1 ⟨v,rfl,⟨rfl,hr1⟩,hm⟩
   have zb1:=ZB.out.mt hm (by decide)
   have hi2:InB w1 b r:=Blk.mt HI1.out hm (by decide)
   have hlt:=zb1.lt
   have ZB1:=Lib.hid zb1
   have HI2:=Lib.hid hi2
   have HM:=Lib.hid hm
   have HR1:=Lib.hid hr1
   clear zb1 hm hr1 hi2
   unfold termV
   go_wp2_with (refine wpList_store_blk rfl 148 _ _ rfl w.heap.size 148 _ _ rfl rfl ZB1.out (by kernel_rfl) rfl (by simp [Value.oneCell']) ?_)
   intro w2 hb2 hm2 hz2
   have r0:=hb2.cell 0
   have r1:=hb2.cell 1
   have r2:=hb2.cell 2
   have r3:=hb2.cell 3
   have r4:=hb2.cell 4
   simp only[List.getElem?_toArray,List.getElem?_cons_zero,List.getElem?_cons_succ] at r0 r1 r2 r3 r4
   have mt2:MT 0 [148] w1 w2:=MT.ofMod hm2 ZB1.out (by simp) (Nat.zero_le _)
   have HM2:=Lib.hid (((MT.ofBelow HB0.out).trans HM.out).own hm2 (Nat.le_refl _))
   have HR2:=Lib.hid (HR1.out.mt mt2 (by decide) (by decide))
   have HI3:=Lib.hid (show InB w2 b r from Blk.mt HI2.out mt2 (by decide))
   clear hb2 hm2 hz2 mt2
   go_wp2_with fail
   exact bodyPost_ret (v:=.agg #[.string ⟨x.1.x.toArray⟩,.int .i64 x.1.k,.int .i64 x.1.n,.string ⟨x.1.t.toArray⟩,.int .i64 x.2]) (by simp [results,Tryz.results88,go_sem, *]) rfl ⟨_,rfl,⟨rfl,HI3.out,HR2.out⟩,HM2.out⟩
theorem all2_map {α:Type} {f:α->List Value} {sz:Nat} {w:World}:∀ {css:List (List Value)} {xs:List α},All2 (ElOk sz (fun _ cs x=>cs=f x) w) css xs->css.flatten=xs.flatMap f
 | [],[],_=>rfl
 | c::css,x::xs,h=>by
   have h1:=all2_map h.2
   have h2:=h.1.2.2
   simp only[List.flatten_cons,List.flatMap_cons,h1,h2]
 | [],_::_,h=>h.elim
 | _::_,[],h=>h.elim
theorem InB.mt {w w':World} {b r B:Nat} {Ts:List TypeId} (h:InB w b r) (hm:MT B Ts w w') (ht:80 ∉ Ts):InB w' b r:=Blk.mt h hm ht
theorem names_any {w:World} {b r:Nat} {c:List Tok} {vt:Value} {B:Nat} (hi:InB w b r) (h:Rs w r c vt) (hB:B<=r) (hw:B<=w.heap.size) :
 Calls Tryz.prog 82 #[.pointer (some ⟨r,0,none⟩),.func (.func 83) #[] #[.pointer (some ⟨b,0,none⟩)]] w
  (PPost (fun xs c' v w'=>w'.ownsRow w.heap.size 135 2 v xs.length (xs.flatMap nameV)/\InB w' b r/\Rs w' r c' vt) B [177] w (listP nameP c)):=by
 refine (list_Nm nameP (fun _ cs x=>cs=nameV x) (fun w _=>InB w b r) B [177] r vt #[.pointer (some ⟨b,0,none⟩)] name_less hB (by simp) (by decide) (fun w w' xs hm hj=>hj.mt hm (by decide)) (fun _ _ _ _ _ h=>h) ?_ w c h hi hw).mono ?_
 ·intro w xs c hw hj hr
  refine (nameClo_any hj hr hB).mono fun e w' hp=>hp.mono fun x c' v w' hh=>?_
  obtain⟨rfl,h2,h3⟩:=hh
  exact⟨nameV x,rfl,⟨rfl,by simp [nameV,Value.oneCell'],rfl⟩,h2,h3⟩
 ·intro e w' hp
  refine hp.mono fun xs c' v w' hh=>?_
  obtain⟨css,h1,h2,h3,h4⟩:=hh
  rw[all2_map h2] at h1
  exact⟨h1,h3,h4⟩
theorem terms_any {w:World} {b r:Nat} {c:List Tok} {vt:Value} {B:Nat} (hi:InB w b r) (h:Rs w r c vt) (hB:B<=r) (hw:B<=w.heap.size) :
 Calls Tryz.prog 87 #[.pointer (some ⟨r,0,none⟩),.func (.func 88) #[] #[.pointer (some ⟨b,0,none⟩)]] w
  (PPost (fun xs c' v w'=>w'.ownsRow w.heap.size 148 5 v xs.length (xs.flatMap termV)/\InB w' b r/\Rs w' r c' vt) B [177] w (listP termP c)):=by
 refine (list_Tm termP (fun _ cs x=>cs=termV x) (fun w _=>InB w b r) B [177] r vt #[.pointer (some ⟨b,0,none⟩)] term_less hB (by simp) (by decide) (fun w w' xs hm hj=>hj.mt hm (by decide)) (fun _ _ _ _ _ h=>h) ?_ w c h hi hw).mono ?_
 ·intro w xs c hw hj hr
  refine (termClo_any hj hr hB).mono fun e w' hp=>hp.mono fun x c' v w' hh=>?_
  obtain⟨rfl,h2,h3⟩:=hh
  exact⟨termV x,rfl,⟨rfl,by simp [termV,Value.oneCell'],rfl⟩,h2,h3⟩
 ·intro e w' hp
  refine hp.mono fun xs c' v w' hh=>?_
  obtain⟨css,h1,h2,h3,h4⟩:=hh
  rw[all2_map h2] at h1
  exact⟨h1,h3,h4⟩
end Go.Proofs.YtamjadghncnbcaaGreatDoor
