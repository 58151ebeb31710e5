/- What the document's Parse of a batch keeps in memory. osierref10.Parse, walked. -/
import Derived.Test.YtamjadghncnbcaaGreatDoorDsW
import Derived.Test.YtamjadghncnbcaaGreatDoorGgW
import Derived.Test.YtamjadghncnbcaaGreatDoorGfW
import Derived.Test.YtamjadghncnbcaaGreatDoorDpW
import Derived.Deep.RegionLaw
import Derived.Deep.CutRange
import Derived.Deep.MidRow
import Derived.OwnWalk
import Derived.BigQuiet
namespace Go.Proofs.YtamjadghncnbcaaGreatDoor
open Go.RowKit
set_option linter.unusedVariables false
structure CI (w0 wb w:World) (b ab:Nat) (vt:Value) (s:LS) (pb:Bool) (rel:List UInt8) (jv:Value) (xs:List Vl):Prop where
 ln:Ln w b s vt
 mt:MT w0.heap.size [101] wb w
 ab:Blk w ab 51 #[.bool pb,.string ⟨rel.toArray⟩,jv]
 tr:w.ownsRow wb.heap.size 69 3 jv xs.length (xs.flatMap Vl.cells)
section
variable {w0 wb w w' w1 : World} {b ab : Nat} {vt : Value} {s s' : LS} {pb : Bool} {rel : List UInt8} {jv : Value} {xs : List Vl}
theorem CI.keep (h:CI w0 wb w b ab vt s pb rel jv xs) (hb:Below w.heap.size w w'):CI w0 wb w' b ab vt s pb rel jv xs :=
 ⟨h.ln.keep hb,h.mt.plusBelow hb,h.ab.mt (MT.ofBelow (B:=0) (Ts:=[]) hb) (by simp),(MT.ofBelow (B:=0) (Ts:=[]) hb).ownsRow h.tr (by simp)⟩
theorem CI.line (h:CI w0 wb w b ab vt s pb rel jv xs) (hm:MT b [101] w w') (hl:Ln w' b s' vt) (hb:w0.heap.size<=b):CI w0 wb w' b ab vt s' pb rel jv xs :=
 ⟨hl,h.mt.trans (hm.mono (by simp) hb),h.ab.mt hm (by decide),hm.ownsRow h.tr (by decide)⟩
theorem CI.name (h:CI w0 wb w b ab vt s pb rel jv xs) (hab:wb.heap.size<=ab) (x:List UInt8):CI w0 wb (w.setCell ⟨ab,1,none⟩ (.string ⟨x.toArray⟩)) b ab vt s pb x jv xs:=by
 have ms:MT wb.heap.size [51] w (w.setCell ⟨ab,1,none⟩ (.string ⟨x.toArray⟩)):=MT.setCell (MT.refl w) h.ab (by simp) hab _
 refine⟨h.ln.mt ms (by decide) (by decide),h.mt.own (b:=ab) ((Mod.refl (fun k=>k=ab) w).setCell (p:=⟨ab,1,none⟩) (fun _=>rfl) _) hab,?_,ms.ownsRow h.tr (by decide)⟩
 simpa using h.ab.set_ 1 (.string ⟨x.toArray⟩)
theorem CI.row {jv':Value} {x:Vl} (h:CI w0 wb w b ab vt s pb rel jv xs) (hg:w.grownBy w1 jv.ownBlock) (hab:wb.heap.size<=ab)
 (hown:w1.ownsRow wb.heap.size 69 3 jv' (xs.length+1) ((xs.flatMap Vl.cells)++x.cells)):CI w0 wb (w1.setCell ⟨ab,2,none⟩ jv') b ab vt s pb rel jv' (xs++[x]):=by
 have m:MT wb.heap.size [69] w w1:=(MT.refl w).grown hg h.tr (by simp) (Nat.le_refl _)
 have a1:=h.ab.mt m (by decide)
 have ms:MT wb.heap.size [51] w1 (w1.setCell ⟨ab,2,none⟩ jv'):=MT.setCell (MT.refl w1) a1 (by simp) hab _
 have mm:MT wb.heap.size [69,51] w (w1.setCell ⟨ab,2,none⟩ jv'):=(m.wide (by simp)).trans (ms.wide (by simp))
 have m0:MT w0.heap.size [101] wb w1:=Mod.grown h.mt hg fun k hk hlt=>by
  have:=(h.tr.lt k hk).1
  omega
 refine⟨h.ln.mt mm (by decide) (by decide),m0.own (b:=ab) ((Mod.refl (fun k=>k=ab) w1).setCell (p:=⟨ab,2,none⟩) (fun _=>rfl) jv') hab,?_,?_⟩
 ·simpa using a1.set_ 2 jv'
 ·have:=ms.ownsRow hown (by decide)
  simpa using this
end
theorem cgS_cg1 (s:LS):cgS s=cg1 (isS 3 [43] s) (plS s) (wantS 1 [] (sgS s)):=rfl
theorem sgS_want (s:LS):sgS s=(wantS 3 (if isS 3 [43] s=true then [43] else [45]) s).2:=rfl
theorem ltS_meas (s:LS):meas (ltS s).2<=meas s:=want_meas 2 [] s
theorem cgS_meas (s:LS):meas (cgS s).2<=meas s:=by
 have h1:=want_meas 3 (if isS 3 [43] s=true then [43] else [45]) s
 rw[cgS_cg1,sgS_want]
 generalize wantS 3 (if isS 3 [43] s=true then [43] else [45]) s=X at h1
 have h2:=want_meas 1 [] X.2
 generalize wantS 1 [] X.2=Y at h2
 rw[cg1_list]
 have h3:=listS_meas ltS_meas Y.2
 simp only
 omega
theorem chgsOwn_snoc {B:Nat} {w w9:World} {ov:Value} {l:List Chg} {x:Chg} {rv:Value} {g cap:Nat} {rows:List (List Value)} {o:Obj}
 (hro:w.ownsRow B 51 3 ov l.length rows.flatten) (hra:All2 (ChgO B w) rows l) (hrow:w.ownsRow B 69 3 rv x.row.length (x.row.map Vl.cells).flatten)
 (hg:(w.alloc o).grownBy w9 ov.ownBlock) (hown:w9.ownsRow B 51 3 (.slice (some ⟨g,0,none⟩) (l.length+1) cap) (l.length+1) (rows.flatten++[.bool x.add,.string ⟨x.rel.toArray⟩,rv])) :
 ChgsOwn B w9 (.slice (some ⟨g,0,none⟩) (l.length+1) cap) (l++[x]):=by
 have m:MT 0 [51] w w9:=((MT.refl w).alloc o).grown hg (hro.alloc o) (by simp) (Nat.zero_le _)
 refine⟨rows++[[.bool x.add,.string ⟨x.rel.toArray⟩,rv]],?_,All2.snoc ⟨rv,rfl,m.ownsRow hrow (by decide)⟩ (hra.mono fun b a h=>h.mt m (by decide))⟩
 rw[List.flatten_append,List.length_append]
 simpa using hown
set_option maxHeartbeats 32000000 in
set_option maxRecDepth 100000 in
theorem refBatch_any (s0:ByteArray) (w:World) (S0:LS) (hg:Good S0)
 (hop:Calls Tryz.prog 51 #[.string s0] w fun e w'=>∃ b vt,e=.returned (.pointer (some ⟨b,0,none⟩))/\w.heap.size<=b/\Ln w' b S0 vt/\Below w.heap.size w w') :
 Calls Tryz.prog 58 #[.string s0] w (BPost w (refB S0)):=by
 obtain⟨iv,hiv,hv0,hv1,hv2⟩:=info_parts Tryz.infoVal
 obtain⟨ic,hic,hc0,hc1,hc2⟩:=info_parts Tryz.infoChg
 have hf1:∀ (a b c d e f:Value) (w:World),(Instr.field 105 (.agg #[a,b,c,d,e,f]) 1).run Tryz.prog w=.ok b w:=fun _ _ _ _ _ _ _=>by kernel_rfl
 have hf0:∀ (a b c d e f:Value) (w:World),(Instr.field 105 (.agg #[a,b,c,d,e,f]) 0).run Tryz.prog w=.ok a w:=fun _ _ _ _ _ _ _=>by kernel_rfl
 have hf3:∀ (a b c d e f:Value) (w:World),(Instr.field 105 (.agg #[a,b,c,d,e,f]) 3).run Tryz.prog w=.ok f w:=fun _ _ _ _ _ _ _=>by kernel_rfl
 have hf2:∀ (a b c d e f:Value) (w:World),(Instr.field 105 (.agg #[a,b,c,d,e,f]) 2).run Tryz.prog w=.ok (.agg #[c,d,e]) w:=fun _ _ _ _ _ _ _=>by kernel_rfl
 have hnot:∀ (x:Bool) (w:World),(Op.unary .not (.bool x)).run Tryz.prog w=.ok (.bool (!x)) w:=fun _ _=>rfl
 obtain⟨Q,hQ⟩:∃ Q,Q=refB S0:=⟨_,rfl⟩
 rw[<-hQ]
 unfold refB at hQ
 obtain⟨G,hG⟩:∃ G,hloop (meas S0+1) S0 []=G:=⟨_,rfl⟩
 rw[hG] at hQ
 have HO:=Lib.hid hop
 have HQ:=Lib.hid hQ
 have HG0:=Lib.hid hG
 have HGd:=Lib.hid hg
 clear hop hQ hG hg
 go_enter Tryz.func58,Tryz.ntmps58
 go_wp2_with fail
 refine HO.out.mono ?_
 rintro e w1 ⟨b,vt,rfl,hb0,hl,hb⟩
 have hme:=ln_meas hl
 have HL1:=Lib.hid hl
 have HB1:=Lib.hid hb
 have HC1:=Lib.hid (⟨[],World.ownsRow_nil _ _ _ _,trivial⟩:ChgsOwn w.heap.size w1 (.slice none 0 0) [])
 clear hl hb HO
 go_wp2_with fail
 go_loopw [6,7] (fun vo vn wr=>∃ (s:LS) (ys:List ChP) (f:Nat) (oa:Option Addr) (oc:Nat),vo=.slice oa ys.length oc/\vn=.int .i64 (overP ys)/\ys.length+f<=300000/\meas s<=f/\(ys=[]->meas s<f)/\Hid (Good s)/\Hid (hloop f s ys=G)/\Hid (Ln wr b s vt)/\Hid (ChgsOwn w.heap.size wr (.slice oa ys.length oc) (ys.map (·.1)))/\Hid (Below w.heap.size w wr)) (fun vo _ _=>300000 - (match vo with | .slice _ n _=>n | _=>0))
 case atStart=>exact⟨S0,[],meas S0+1,none,0,rfl,rfl,by simp;omega,by omega,fun _=>by omega,HGd,HG0,HL1,HC1,HB1⟩
 case round =>
  obtain⟨s,ys,f,oa,oc,rfl,rfl,hbd,hf,hfe,HGs,HH,LN,OC,BW⟩:=hrel
  obtain⟨wr0,rfl⟩:∃ wr0:World,wr0=wr:=⟨_,rfl⟩
  have hwr:=BW.out.size
  clear HGd HG0 HL1 HB1 HC1
  cases s with
  | bad pa ee =>
    obtain⟨s,hs⟩:∃ s,LS.bad pa ee=s:=⟨_,rfl⟩
    obtain⟨tb,ib,hld⟩:=ln_bad LN.out
    have x1:=hld.blk.cell 3
    have xl:=hld.blk.lt
    simp only[List.getElem?_toArray,List.getElem?_cons_zero,List.getElem?_cons_succ] at x1
    have hen:(ee == 0)=false:=by simpa using (show ee≠0 from HGs.out)
    have hge:=HH.out
    rw[hloop_bad,hs] at hge
    have HGE:=Lib.hid hge
    have LN:=LN
    rw[hs] at LN HGs
    have HWX:=Lib.hid (want_ln LN.out HGs.out 0 [])
    have HOX:=OC
    have HBX:=BW
    clear hld hge hs LN HH hbd hf hfe
    go_wp2_with fail
    refine HWX.out.mono ?_
    rintro e w5 ⟨rfl,hl5,hm5⟩
    have m5:=hm5.mono (Ts':=[101]) (B':=w.heap.size) (fun _ h=>h) (by omega)
    have ho5:=HOX.out.mt m5 (by decide) (by decide)
    have hb5:=HBX.out.trans (m5.below HBX.out.size)
    have hnb5:NB (wantS 0 [] s).2:=want0_nb HGs.out
    have hrf:b0 (s,ys)=outB (ovS ys (wantS 0 [] s).2) ys:=rfl
    rw[<-HGE.out] at HQ
    have HQE:=Lib.hid (HQ.out.trans hrf)
    generalize (wantS 0 [] s).2=s5 at hl5 hnb5 HQE
    have HL5:=Lib.hid hl5
    have HO5:=Lib.hid ho5
    have HB5:=Lib.hid hb5
    have HN5:=Lib.hid hnb5
    clear hl5 hm5 m5 ho5 hb5 hnb5 hrf HWX HOX HBX HQ HGE HGs
    unfold Tok.v
    by_cases hov:0<=overP ys
    case' pos =>
     have hd:decide (0<=overP ys)=true:=decide_eq_true hov
     have HFL:=Lib.hid (fail_ln HL5.out HN5.out (overP ys) 100)
     have HN6:=Lib.hid (fail_nb HN5.out (overP ys) 100 (by decide))
     have hqe:=HQE.out
     unfold ovS at hqe
     rw[if_pos hov] at hqe
     generalize failS (overP ys) 100 s5=s6 at HFL HN6 hqe
     have HQ6:=Lib.hid hqe
     generalize overP ys=op at *
     clear hqe HQE
     go_wp2_with fail
     refine HFL.out.mono ?_
     rintro e w6 ⟨rfl,hl6,hm6⟩
     have m6:=hm6.mono (Ts':=[101]) (B':=w.heap.size) (fun _ h=>h) (by omega)
     have HL6:=Lib.hid hl6
     have HO6:=Lib.hid (HO5.out.mt m6 (by decide) (by decide))
     have HB6:=Lib.hid (HB5.out.trans (m6.below HB5.out.size))
     clear hl6 hm6 m6 HFL HL5 HO5 HB5 HN5 hov hd
    case' neg =>
     have hd:decide (0<=overP ys)=false:=decide_eq_false hov
     have hqe:=HQE.out
     unfold ovS at hqe
     rw[if_neg hov] at hqe
     obtain⟨s6,rfl⟩:∃ s6,s6=s5:=⟨_,rfl⟩
     obtain⟨w6,rfl⟩:∃ w6:World,w6=w5:=⟨_,rfl⟩
     have HQ6:=Lib.hid hqe
     have HL6:=HL5
     have HO6:=HO5
     have HB6:=HB5
     have HN6:=HN5
     generalize overP ys=op at *
     clear hqe HQE hov HL5 HO5 HB5 HN5
    all_goals
     cases s6 with
     | bad pa ee =>
       obtain⟨tb,ib,hld⟩:=ln_bad HL6.out
       have e2:=hld.blk.cell 2
       have e3:=hld.blk.cell 3
       have hel:=hld.blk.lt
       simp only[List.getElem?_toArray,List.getElem?_cons_zero,List.getElem?_cons_succ] at e2 e3
       have hen:(ee != 0)=true:=by simpa using HN6.out _ _ rfl
       have hq:=HQ6.out
       simp only[outB] at hq
       subst hq
       clear hld HL6 HO6 HN6
       go_wp2_with fail
       go_quiet (fail)
       go_wp2_with fail
       go_ret3
       exact⟨by first | rfl | simp,bdrewN HB6.out _⟩
     | ok c6 =>
       obtain⟨tb,ib,pa6,hld,_⟩:=ln_ok HL6.out
       have e3:=hld.blk.cell 3
       have hel:=hld.blk.lt
       simp only[List.getElem?_toArray,List.getElem?_cons_zero,List.getElem?_cons_succ] at e3
       have hq:=HQ6.out
       simp only[outB] at hq
       subst hq
       clear hld HL6 HN6
       go_wp2_with fail
       go_ret3
       exact⟨_,rfl,HO6.out,HB6.out⟩
  | ok c =>
    obtain⟨u,r,rfl⟩:=Ended.some HGs.out
    obtain⟨tb,ib,pa,hld,_⟩:=ln_ok LN.out
    have x1:=hld.blk.cell 3
    have xl:=hld.blk.lt
    simp only[List.getElem?_toArray,List.getElem?_cons_zero,List.getElem?_cons_succ] at x1
    clear hld
    have hfe1:1<=f:=by
     have:meas (.ok (u::r))=r.length+2:=by simp [meas]
     omega
    obtain⟨f,rfl⟩:∃ g,f=g+1:=⟨f - 1,by omega⟩
    have hcases:(ys.length=0/\u.k=0)∨(ys.length≠0/\(moreS ys.length (.ok (u::r))).1=false)∨(ys.length=0/\u.k≠0)∨(ys.length≠0/\(moreS ys.length (.ok (u::r))).1=true):=by
     by_cases h0:ys.length=0
     ·by_cases hk:u.k=0
      ·exact .inl ⟨h0,hk⟩
      ·exact .inr (.inr (.inl ⟨h0,hk⟩))
     ·cases hc1:(moreS ys.length (.ok (u::r))).1
      ·exact .inr (.inl ⟨h0,rfl⟩)
      ·exact .inr (.inr (.inr ⟨h0,rfl⟩))
    rcases hcases with ⟨h0,hk⟩ | ⟨h0,hc1⟩ | hgo
    ·have hz:((ys.length:Int) == 0)=true:=by simp [h0]
     have hz2:decide (0<(ys.length:Int))=false:=by simp [h0]
     have hz3:decide (0<ys.length)=false:=by simp [h0]
     have hk2:(u.k != 0)=false:=by simp [hk]
     have hge:=HH.out
     rw[hloop_end (f+1) (s:=.ok (u::r)) (ys:=ys) (by rw[h0];show (!endT (u::r))=false;simp [endT,hk])] at hge
     have HNX:=Lib.hid (next_ln LN.out)
     obtain⟨s,hs⟩:∃ s,LS.ok (u::r)=s:=⟨_,rfl⟩
     rw[hs] at hge HGs LN
     have HGE:=Lib.hid hge
     clear hge hs h0 hk HH hbd hf hfe hfe1
     unfold Tok.v at HNX
     go_wp2_with fail
     refine HNX.out.mono ?_
     rintro e w4 ⟨rfl,hb4⟩
     have HWX:=Lib.hid (want_ln (LN.out.keep hb4) HGs.out 0 [])
     have HOX:=Lib.hid (OC.out.mt (MT.ofBelow (B:=0) (Ts:=[]) hb4) (by simp) (by simp))
     have HBX:=Lib.hid (BW.out.trans (hb4.mono hwr))
     have hbl:w.heap.size<=b:=hb0
     clear hb4 LN OC BW HNX x1 xl
     go_wp2_with fail
     refine HWX.out.mono ?_
     rintro e w5 ⟨rfl,hl5,hm5⟩
     have m5:=hm5.mono (Ts':=[101]) (B':=w.heap.size) (fun _ h=>h) (by omega)
     have ho5:=HOX.out.mt m5 (by decide) (by decide)
     have hb5:=HBX.out.trans (m5.below HBX.out.size)
     have hnb5:NB (wantS 0 [] s).2:=want0_nb HGs.out
     have hrf:b0 (s,ys)=outB (ovS ys (wantS 0 [] s).2) ys:=rfl
     rw[<-HGE.out] at HQ
     have HQE:=Lib.hid (HQ.out.trans hrf)
     generalize (wantS 0 [] s).2=s5 at hl5 hnb5 HQE
     have HL5:=Lib.hid hl5
     have HO5:=Lib.hid ho5
     have HB5:=Lib.hid hb5
     have HN5:=Lib.hid hnb5
     clear hl5 hm5 m5 ho5 hb5 hnb5 hrf HWX HOX HBX HQ HGE HGs
     unfold Tok.v
     by_cases hov:0<=overP ys
     case' pos =>
      have hd:decide (0<=overP ys)=true:=decide_eq_true hov
      have HFL:=Lib.hid (fail_ln HL5.out HN5.out (overP ys) 100)
      have HN6:=Lib.hid (fail_nb HN5.out (overP ys) 100 (by decide))
      have hqe:=HQE.out
      unfold ovS at hqe
      rw[if_pos hov] at hqe
      generalize failS (overP ys) 100 s5=s6 at HFL HN6 hqe
      have HQ6:=Lib.hid hqe
      generalize overP ys=op at *
      clear hqe HQE
      go_wp2_with fail
      refine HFL.out.mono ?_
      rintro e w6 ⟨rfl,hl6,hm6⟩
      have m6:=hm6.mono (Ts':=[101]) (B':=w.heap.size) (fun _ h=>h) (by omega)
      have HL6:=Lib.hid hl6
      have HO6:=Lib.hid (HO5.out.mt m6 (by decide) (by decide))
      have HB6:=Lib.hid (HB5.out.trans (m6.below HB5.out.size))
      clear hl6 hm6 m6 HFL HL5 HO5 HB5 HN5 hov hd
     case' neg =>
      have hd:decide (0<=overP ys)=false:=decide_eq_false hov
      have hqe:=HQE.out
      unfold ovS at hqe
      rw[if_neg hov] at hqe
      obtain⟨s6,rfl⟩:∃ s6,s6=s5:=⟨_,rfl⟩
      obtain⟨w6,rfl⟩:∃ w6:World,w6=w5:=⟨_,rfl⟩
      have HQ6:=Lib.hid hqe
      have HL6:=HL5
      have HO6:=HO5
      have HB6:=HB5
      have HN6:=HN5
      generalize overP ys=op at *
      clear hqe HQE hov HL5 HO5 HB5 HN5
     all_goals
      cases s6 with
      | bad pa ee =>
        obtain⟨tb,ib,hld⟩:=ln_bad HL6.out
        have e2:=hld.blk.cell 2
        have e3:=hld.blk.cell 3
        have hel:=hld.blk.lt
        simp only[List.getElem?_toArray,List.getElem?_cons_zero,List.getElem?_cons_succ] at e2 e3
        have hen:(ee != 0)=true:=by simpa using HN6.out _ _ rfl
        have hq:=HQ6.out
        simp only[outB] at hq
        subst hq
        clear hld HL6 HO6 HN6
        go_wp2_with fail
        go_quiet (fail)
        go_wp2_with fail
        go_ret3
        exact⟨by first | rfl | simp,bdrewN HB6.out _⟩
      | ok c6 =>
        obtain⟨tb,ib,pa6,hld,_⟩:=ln_ok HL6.out
        have e3:=hld.blk.cell 3
        have hel:=hld.blk.lt
        simp only[List.getElem?_toArray,List.getElem?_cons_zero,List.getElem?_cons_succ] at e3
        have hq:=HQ6.out
        simp only[outB] at hq
        subst hq
        clear hld HL6 HN6
        go_wp2_with fail
        go_ret3
        exact⟨_,rfl,HO6.out,HB6.out⟩
    ·have hz:((ys.length:Int) == 0)=false:=by rw[beq_eq_false_iff_ne];omega
     have hz2:decide (0<(ys.length:Int))=true:=by simp;omega
     have hz3:decide (0<ys.length)=true:=by simp;omega
     have hge:=HH.out
     rw[hloop_end (f+1) (s:=.ok (u::r)) (ys:=ys) (by rw[moreB_pos h0];exact hc1)] at hge
     have hmo:=more_ln LN.out HGs.out ys.length (by omega)
     rw[hc1,more_false hc1] at hmo
     have HMO:=Lib.hid hmo
     obtain⟨s,hs⟩:∃ s,LS.ok (u::r)=s:=⟨_,rfl⟩
     rw[hs] at hge HGs LN HMO
     have HGE:=Lib.hid hge
     clear hge hs h0 hc1 hmo HH hbd hf hfe hfe1
     go_wp2_with fail
     refine HMO.out.mono ?_
     rintro e w4 ⟨rfl,hl4,hm4⟩
     have m4:=hm4.mono (Ts':=[101]) (B':=w.heap.size) (fun _ h=>h) (by omega)
     have HWX:=Lib.hid (want_ln hl4 HGs.out 0 [])
     have HOX:=Lib.hid (OC.out.mt m4 (by decide) (by decide))
     have HBX:=Lib.hid (BW.out.trans (m4.below hwr))
     clear hl4 hm4 m4 LN OC BW HMO x1 xl
     go_wp2_with fail
     refine HWX.out.mono ?_
     rintro e w5 ⟨rfl,hl5,hm5⟩
     have m5:=hm5.mono (Ts':=[101]) (B':=w.heap.size) (fun _ h=>h) (by omega)
     have ho5:=HOX.out.mt m5 (by decide) (by decide)
     have hb5:=HBX.out.trans (m5.below HBX.out.size)
     have hnb5:NB (wantS 0 [] s).2:=want0_nb HGs.out
     have hrf:b0 (s,ys)=outB (ovS ys (wantS 0 [] s).2) ys:=rfl
     rw[<-HGE.out] at HQ
     have HQE:=Lib.hid (HQ.out.trans hrf)
     generalize (wantS 0 [] s).2=s5 at hl5 hnb5 HQE
     have HL5:=Lib.hid hl5
     have HO5:=Lib.hid ho5
     have HB5:=Lib.hid hb5
     have HN5:=Lib.hid hnb5
     clear hl5 hm5 m5 ho5 hb5 hnb5 hrf HWX HOX HBX HQ HGE HGs
     unfold Tok.v
     by_cases hov:0<=overP ys
     case' pos =>
      have hd:decide (0<=overP ys)=true:=decide_eq_true hov
      have HFL:=Lib.hid (fail_ln HL5.out HN5.out (overP ys) 100)
      have HN6:=Lib.hid (fail_nb HN5.out (overP ys) 100 (by decide))
      have hqe:=HQE.out
      unfold ovS at hqe
      rw[if_pos hov] at hqe
      generalize failS (overP ys) 100 s5=s6 at HFL HN6 hqe
      have HQ6:=Lib.hid hqe
      generalize overP ys=op at *
      clear hqe HQE
      go_wp2_with fail
      refine HFL.out.mono ?_
      rintro e w6 ⟨rfl,hl6,hm6⟩
      have m6:=hm6.mono (Ts':=[101]) (B':=w.heap.size) (fun _ h=>h) (by omega)
      have HL6:=Lib.hid hl6
      have HO6:=Lib.hid (HO5.out.mt m6 (by decide) (by decide))
      have HB6:=Lib.hid (HB5.out.trans (m6.below HB5.out.size))
      clear hl6 hm6 m6 HFL HL5 HO5 HB5 HN5 hov hd
     case' neg =>
      have hd:decide (0<=overP ys)=false:=decide_eq_false hov
      have hqe:=HQE.out
      unfold ovS at hqe
      rw[if_neg hov] at hqe
      obtain⟨s6,rfl⟩:∃ s6,s6=s5:=⟨_,rfl⟩
      obtain⟨w6,rfl⟩:∃ w6:World,w6=w5:=⟨_,rfl⟩
      have HQ6:=Lib.hid hqe
      have HL6:=HL5
      have HO6:=HO5
      have HB6:=HB5
      have HN6:=HN5
      generalize overP ys=op at *
      clear hqe HQE hov HL5 HO5 HB5 HN5
     all_goals
      cases s6 with
      | bad pa ee =>
        obtain⟨tb,ib,hld⟩:=ln_bad HL6.out
        have e2:=hld.blk.cell 2
        have e3:=hld.blk.cell 3
        have hel:=hld.blk.lt
        simp only[List.getElem?_toArray,List.getElem?_cons_zero,List.getElem?_cons_succ] at e2 e3
        have hen:(ee != 0)=true:=by simpa using HN6.out _ _ rfl
        have hq:=HQ6.out
        simp only[outB] at hq
        subst hq
        clear hld HL6 HO6 HN6
        go_wp2_with fail
        go_quiet (fail)
        go_wp2_with fail
        go_ret3
        exact⟨by first | rfl | simp,bdrewN HB6.out _⟩
      | ok c6 =>
        obtain⟨tb,ib,pa6,hld,_⟩:=ln_ok HL6.out
        have e3:=hld.blk.cell 3
        have hel:=hld.blk.lt
        simp only[List.getElem?_toArray,List.getElem?_cons_zero,List.getElem?_cons_succ] at e3
        have hq:=HQ6.out
        simp only[outB] at hq
        subst hq
        clear hld HL6 HN6
        go_wp2_with fail
        go_ret3
        exact⟨_,rfl,HO6.out,HB6.out⟩
    ·rcases hgo with ⟨h0,hk⟩ | ⟨h0,hc1⟩
     case' inl =>
      have hz:((ys.length:Int) == 0)=true:=by simp [h0]
      have hk2:(u.k != 0)=true:=by simpa using hk
      have hmb:moreB ys.length (.ok (u::r))=(true,.ok (u::r)):=by
       rw[h0]
       show (!endT (u::r),LS.ok (u::r))=_
       simp [endT,hk]
      have hgo:=hloop_go f (s:=.ok (u::r)) (ys:=ys) (by rw[hmb])
      rw[hmb] at hgo
      have hma:meas (cgS (.ok (u::r))).2<=f:=by
       have h1:=cgS_meas (.ok (u::r))
       have h2:=hfe (List.eq_nil_of_length_eq_zero h0)
       omega
      have HHA:=Lib.hid (hgo.symm.trans HH.out)
      have HNX:=Lib.hid (next_ln LN.out)
      obtain⟨u2,rfl⟩:∃ u2,u2=u:=⟨_,rfl⟩
      obtain⟨r2,rfl⟩:∃ r2,r2=r:=⟨_,rfl⟩
      have HEA:=HGs
      clear hmb hgo h0 hk HH hf hfe hfe1 HGs
      unfold Tok.v at HNX
      go_wp2_with fail
      refine HNX.out.mono ?_
      rintro e wa ⟨rfl,hba⟩
      have HLA:=Lib.hid (LN.out.keep hba)
      have HOA:=Lib.hid (OC.out.mt (MT.ofBelow (B:=0) (Ts:=[]) hba) (by simp) (by simp))
      have HBA:=Lib.hid (BW.out.trans (hba.mono hwr))
      clear hba LN OC BW HNX x1 xl
      go_wp2_with fail
     case' inr =>
      have hz:((ys.length:Int) == 0)=false:=by rw[beq_eq_false_iff_ne];omega
      have hz2:decide (0<(ys.length:Int))=true:=by simp;omega
      have hz3:decide (0<ys.length)=true:=by simp;omega
      have hmo:=more_ln LN.out HGs.out ys.length (by omega)
      obtain⟨u2,r2,hu2,heu⟩:=more_true hc1 HGs.out
      have hmm:=(more_meas HGs.out hc1).2.2 h0
      have hgo:=hloop_go f (s:=.ok (u::r)) (ys:=ys) (by rw[moreB_pos h0];exact hc1)
      rw[moreB_pos h0,hu2] at hgo
      rw[hc1,hu2] at hmo
      rw[hu2] at hmm
      have hma:meas (cgS (.ok (u2::r2))).2<=f:=by
       have h1:=cgS_meas (.ok (u2::r2))
       omega
      have HHA:=Lib.hid (hgo.symm.trans HH.out)
      have HMO:=Lib.hid hmo
      have HEA:=Lib.hid (show Good (.ok (u2::r2)) from heu)
      clear hmo hu2 heu hmm hgo h0 hc1 HH hf hfe hfe1 HGs
      go_wp2_with fail
      refine HMO.out.mono ?_
      rintro e wa ⟨rfl,hla,hm4⟩
      have m4:=hm4.mono (Ts':=[101]) (B':=w.heap.size) (fun _ h=>h) (by omega)
      have HLA:=Lib.hid hla
      have HOA:=Lib.hid (OC.out.mt m4 (by decide) (by decide))
      have HBA:=Lib.hid (BW.out.trans (m4.below hwr))
      clear hla hm4 m4 LN OC BW HMO x1 xl
      go_wp2_with fail
     all_goals
      have his:=is_ln HLA.out HEA.out 3 [43]
      obtain⟨pb,hpb⟩:∃ pb,isS 3 [43] (.ok (u2::r2))=pb:=⟨_,rfl⟩
      obtain⟨s2,hs2⟩:∃ s2,sgS (.ok (u2::r2))=s2:=⟨_,rfl⟩
      have hsw:=sgS_want (.ok (u2::r2))
      have hg2:Good s2:=by
       rw[<-hs2,hsw]
       exact want_good (by decide) HEA.out
      have hpl:plS (.ok (u2::r2))=u2.p:=rfl
      have hh:=HHA.out
      rw[cgS_cg1] at hh hma
      rw[hpb,hs2,hpl] at hh hma
      rw[hpb] at his hsw
      rw[hs2] at hsw
      have hwa:=HBA.out.size
      have HIS:=Lib.hid his
      have HSW:=Lib.hid hsw
      have HG2:=Lib.hid hg2
      have HHB:=Lib.hid hh
      clear his hpb hs2 hsw hg2 hpl hh HHA
      refine HIS.out.mono ?_
      rintro e wb ⟨rfl,hbb⟩
      have bk:Below wb.heap.size wb (wb.alloc (.cells #[.bool pb,.string ⟨#[]⟩,.slice none 0 0] 51)):=balloc (Below.refl _ _) _
      have bx:=Blk.new wb 51 #[.bool pb,.string ⟨#[]⟩,.slice none 0 0]
      obtain⟨Wb,hWb⟩:∃ Wb,wb.alloc (.cells #[.bool pb,.string ⟨#[]⟩,.slice none 0 0] 51)=Wb:=⟨_,rfl⟩
      rw[hWb] at bk bx
      have hci:CI w wb Wb b wb.heap.size vt (.ok (u2::r2)) pb [] (.slice none 0 0) []:=⟨(HLA.out.keep hbb).keep bk,MT.ofBelow bk,bx,World.ownsRow_nil _ _ _ _⟩
      have HCI:=Lib.hid hci
      have HWB:=Lib.hid hWb
      have HOB:=Lib.hid (HOA.out.mt (MT.ofBelow (B:=0) (Ts:=[]) hbb) (by simp) (by simp))
      have HBB:=Lib.hid (HBA.out.trans (hbb.mono hwa))
      have hwb:w.heap.size<=wb.heap.size:=HBB.out.size
      clear hbb bk bx hWb hci HLA HOA HBA HIS hwa
      go_upto_region 6 with fail
      rw[HWB.out]
      by_cases h256:ys.length=256
      case' pos =>
       have hq:((ys.length:Int) == 256)=true:=by simp [h256]
       have HOV:=Lib.hid (show (if ys.length=256 then u2.p else overP ys)=u2.p from if_pos h256)
       have HNX:=Lib.hid (next_ln HCI.out.ln)
       clear h256
       unfold Tok.v at HNX
       go_wp2_with fail
       refine HNX.out.mono ?_
       rintro e wc ⟨rfl,hbc⟩
       have HCC:=Lib.hid (HCI.out.keep hbc)
       clear hbc HNX hq HCI
      case' neg =>
       have hq:((ys.length:Int) == 256)=false:=by rw[beq_eq_false_iff_ne];omega
       have HOV:=Lib.hid (show (if ys.length=256 then u2.p else overP ys)=overP ys from if_neg h256)
       obtain⟨wc,rfl⟩:∃ wc:World,wc=Wb:=⟨_,rfl⟩
       have HCC:=HCI
       clear h256 HCI
      all_goals
       have z0:=HCC.out.ab.cell 0
       have zl:=HCC.out.ab.lt
       simp only[List.getElem?_toArray,List.getElem?_cons_zero] at z0
       have hpbc:pb=true∨pb=false:=by cases pb<;>simp
       rcases hpbc with hpb | hpb
       case' inl =>
        have hwn:=want_ln HCC.out.ln HEA.out 3 [43]
        have hsw:=HSW.out
        rw[if_pos hpb] at hsw
        rw[<-hsw] at hwn
        generalize (wantS 3 [43] (.ok (u2::r2))).1=t9 at hwn
        have HWN:=Lib.hid hwn
        clear hwn hsw
        rw[hpb] at z0
       case' inr =>
        have hwn:=want_ln HCC.out.ln HEA.out 3 [45]
        have hsw:=HSW.out
        rw[if_neg (by rw[hpb];decide)] at hsw
        rw[<-hsw] at hwn
        generalize (wantS 3 [45] (.ok (u2::r2))).1=t9 at hwn
        have HWN:=Lib.hid hwn
        clear hwn hsw
        rw[hpb] at z0
       all_goals
        have HPB:=Lib.hid hpb
        clear hpb
        unfold Tok.v at HWN
        go_wp2_with fail
        refine HWN.out.mono ?_
        rintro e wd ⟨rfl,hld,hmd⟩
        have HCD:=Lib.hid (HCC.out.line hmd hld hb0)
        clear hld hmd HWN HCC z0 zl
        have hwx:=fun W (h:Ln W b s2 vt)=>want_ln h HG2.out 1 []
        have hg3:Good (wantS 1 [] s2).2:=want_good (by decide) HG2.out
        have hh:=HHB.out
        generalize wantS 1 [] s2=X at hwx hg3 hh hma
        obtain⟨t,sb⟩:=X
        simp only[cg1] at hwx hg3 hh hma
        have HWX:=Lib.hid (hwx wd HCD.out.ln)
        have HG3:=Lib.hid hg3
        have HHC:=Lib.hid hh
        clear hwx hg3 hh HHB HG2
        unfold Tok.v at HWX
        go_wp2_with fail
        refine HWX.out.mono ?_
        rintro e we ⟨rfl,hle,hme2⟩
        have hce:=HCD.out.line hme2 hle hb0
        have z1:=hce.ab.cell 1
        have zf:=hce.ab.frozen 1
        have zl:=hce.ab.lt
        simp only[List.getElem?_toArray,List.getElem?_cons_zero,List.getElem?_cons_succ] at z1
        have hcn:=hce.name (Nat.le_refl _) t.x
        obtain⟨Wn,hWn⟩:∃ Wn,we.setCell ⟨wb.heap.size,1,none⟩ (.string ⟨t.x.toArray⟩)=Wn:=⟨_,rfl⟩
        rw[hWn] at hcn
        have hwy:=want_ln hcn.ln HG3.out 3 [40]
        have hg4:Good (wantS 3 [40] sb).2:=want_good (by decide) HG3.out
        have hh:=HHC.out
        generalize wantS 3 [40] sb=X at hwy hg4 hh hma
        obtain⟨t4,sc⟩:=X
        simp only[cg2] at hwy hg4 hh hma
        obtain⟨G3,hG3⟩:∃ G3,gloop ltS (meas sc+1) sc []=G3:=⟨_,rfl⟩
        rw[hG3] at hh hma
        have HWN:=Lib.hid hWn
        have HCN:=Lib.hid hcn
        have HWY:=Lib.hid hwy
        have HG4:=Lib.hid hg4
        have HHD:=Lib.hid hh
        have HG3':=Lib.hid hG3
        clear hle hme2 hce hcn hWn hwy hg4 hh hG3 HCD HWX HHC HG3
        unfold Tok.v at HWY
        go_upto_region 12 with fail
        rw[HWN.out]
        clear z1 zf zl
        go_wp2_with fail
        refine HWY.out.mono ?_
        rintro e wf ⟨rfl,hlf,hmf⟩
        have hmed:=ln_meas hlf
        have HCF:=Lib.hid (HCN.out.line hmf hlf hb0)
        clear hlf hmf HCN HWY
        go_wp2_with fail
        go_loopw [] (fun wr=>∃ (s3:LS) (xs:List Vl) (f3:Nat) (ja:Option Addr) (jc:Nat),xs.length+f3<=200010/\meas s3<=f3/\(xs=[]->meas s3<f3)/\Hid (Good s3)/\Hid (gloop ltS f3 s3 xs=G3)/\Hid (CI w wb wr b wb.heap.size vt s3 pb t.x (.slice ja xs.length jc) xs)) (fun wr=>300000 - (match wr.cell? ⟨wb.heap.size,2,none⟩ with | some (.slice _ n _)=>n | _=>0))
        case atStart=>exact⟨sc,[],meas sc+1,none,0,by simp;omega,by omega,fun _=>by omega,HG4,HG3',HCF⟩
        case round =>
         obtain⟨s3,xs,f3,ja,jc,hbd3,hf3,hf30,HGS,HGL,HIN⟩:=hrel
         obtain⟨wg,rfl⟩:∃ wg:World,wg=wr:=⟨_,rfl⟩
         have hmo:=more_ln HIN.out.ln HGS.out xs.length (by omega)
         have x1:=HIN.out.ab.cell 2
         simp only[List.getElem?_toArray,List.getElem?_cons_zero,List.getElem?_cons_succ] at x1
         have xe:=x1
         have xl:=HIN.out.ab.lt
         cases hc1:(moreS xs.length s3).1 with
         | false =>
           rw[hc1,more_false hc1] at hmo
           have hge:=HGL.out
           rw[gloop_end ltS f3 hc1] at hge
           have hh:=HHD.out
           rw[<-hge] at hh hma
           simp only[cg3] at hh hma
           have hw9:=fun W (h:Ln W b s3 vt)=>want_ln h HGS.out 3 [41]
           have hg9:Good (wantS 3 [41] s3).2:=want_good (by decide) HGS.out
           generalize wantS 3 [41] s3=X at hw9 hg9 hh hma
           obtain⟨t5,se⟩:=X
           simp only at hw9 hg9 hh hma
           have HM:=Lib.hid hmo
           have HW9:=Lib.hid hw9
           have HG9:=Lib.hid hg9
           have HHE:=Lib.hid hh
           clear hmo hge hh hw9 hg9 hc1 HGL HGS hf3 hf30 HHD xe
           unfold Tok.v at HW9
           go_wp2_with fail
           refine HM.out.mono ?_
           rintro e wh ⟨rfl,hlh,hmh⟩
           have inf:=HIN.out.line hmh hlh hb0
           have HWF:=Lib.hid (HW9.out _ inf.ln)
           have HINF:=Lib.hid inf
           clear inf hlh hmh HM HIN HW9 x1 xl
           go_wp2_with fail
           refine HWF.out.mono ?_
           rintro e wi ⟨rfl,hli,hmi⟩
           have ing:=HINF.out.line hmi hli hb0
           obtain⟨rows,hro,hra⟩:=HOB.out.mt ing.mt (by decide) (by decide)
           simp only[List.length_map] at hro
           have a0:=ing.ab.cell 0
           have a1:=ing.ab.cell 1
           have a2:=ing.ab.cell 2
           have al:=ing.ab.lt
           simp only[List.getElem?_toArray,List.getElem?_cons_zero,List.getElem?_cons_succ] at a0 a1 a2
           have hwi:w.heap.size<=wi.heap.size:=Nat.le_trans hwb ing.mt.size
           have HING:=Lib.hid ing
           have HRO:=Lib.hid hro
           have HRA:=Lib.hid hra
           clear ing hro hra hli hmi HINF HWF
           go_wp2_with (at_builtin;refine wpList_append_lies _ rfl (.tmp 74) (.tmp 76) 30 rfl w.heap.size 51 ic (.agg #[.bool false,.string ⟨#[]⟩,.slice none 0 0]) 3 48 Tryz.underlying30 hic hc0 hc1 hc2 rfl (by decide) (.slice oa ys.length oc) ys.length _ rfl (HRO.out.alloc _) ⟨_,0,none⟩ 1 1 [.bool pb,.string ⟨t.x.toArray⟩,.slice ja xs.length jc] rfl rfl (World.news_of_block (Blk.new _ _ _)) (by simp [Value.oneCell']) (by decide) ?v3 ?v5 ?v4 _ rfl ?_)
           case v3=>unfold maxLen;omega
           case v5=>omega
           case v4=>simp;omega
           intro g5 cap5 wj hown5 hgrow5 hat5 hlt5
           have hrow:wi.ownsRow w.heap.size 69 3 (.slice ja xs.length jc) xs.length (xs.map Vl.cells).flatten:=by
            have:=World.ownsRow.low HING.out.tr hwb
            rw[map_flatV]
            exact this
           have hco:=chgsOwn_snoc (x:=⟨pb,t.x,xs⟩) (l:=ys.map (·.1)) (by rw[List.length_map];exact HRO.out) HRA.out hrow hgrow5 (by rw[List.length_map];exact hown5)
           rw[List.length_map] at hco
           have m5:MT w.heap.size [51] wi wj:=((MT.refl wi).alloc _).grown hgrow5 (HRO.out.alloc _) (by simp) (Nat.le_refl _)
           have HLK:=Lib.hid (HING.out.ln.mt m5 (by decide) (by decide))
           have HBK:=Lib.hid ((HBB.out.trans (HING.out.mt.below hwb)).trans (m5.below hwi))
           have HCO:=Lib.hid hco
           clear hrow hco m5 hown5 hgrow5 hat5 hlt5
           go_wp2_with fail
           go_roundw
           case rel=>exact⟨se,ys++[(⟨pb,t.x,xs⟩,u2.p)],f,some ⟨g5,0,none⟩,cap5,by simp,by rw[overB_snoc,HOV.out],by simp;omega,hma,by simp,HG9,HHE,HLK,Lib.hid (by simpa using HCO.out),HBK⟩
           case measure=>simp;omega
         | true =>
           obtain⟨f3,rfl⟩:∃ g,f3=g+1:=⟨f3 - 1,by have:=(more_meas HGS.out hc1).1;omega⟩
           have hgl:=HGL.out
           rw[gloop_go ltS f3 hc1] at hgl
           obtain⟨hme1,hme2,hme3⟩:=more_meas HGS.out hc1
           have hme4:meas (moreS xs.length s3).2<=f3:=by
            by_cases h0:xs=[]
            ·have:=hf30 h0;omega
            ·have:=hme3 (fun e=>h0 (List.eq_nil_of_length_eq_zero e));omega
           rw[hc1] at hmo
           have hgm:Good (moreS xs.length s3).2:=more_good HGS.out
           generalize (moreS xs.length s3).2=s4 at hmo hgl hme4 hgm
           have hwz:=fun W (h:Ln W b s4 vt)=>want_ln h hgm 2 []
           have hgz:Good (wantS 2 [] s4).2:=want_good (by decide) hgm
           have hwm:=want_meas 2 [] s4
           simp only[ltS] at hgl
           generalize wantS 2 [] s4=X at hwz hgz hwm hgl
           obtain⟨t5,sf⟩:=X
           simp only at hwz hgz hwm hgl
           have hmsf:meas sf<=f3:=by omega
           have HM:=Lib.hid hmo
           have HWZ:=Lib.hid hwz
           have HGZ:=Lib.hid hgz
           have HGL2:=Lib.hid hgl
           clear hgl hmo hgm hwz hgz hwm hme1 hme2 hme3 hme4 hc1 HGL HGS hf3 hf30
           unfold Tok.v at HWZ
           go_wp2_with fail
           refine HM.out.mono ?_
           rintro e wh ⟨rfl,hlh,hmh⟩
           have inf:=HIN.out.line hmh hlh hb0
           have HW9:=Lib.hid (HWZ.out wh.drew (inf.ln.keep (bdrew (Below.refl _ _))))
           have x1:=inf.ab.cell 2
           have xl:=inf.ab.lt
           simp only[List.getElem?_toArray,List.getElem?_cons_zero,List.getElem?_cons_succ] at x1
           have HINF:=Lib.hid inf
           have HXE:=Lib.hid xe
           clear inf hlh hmh HM HIN HWZ xe
           go_wp2_with fail
           go_region_law (first
            | (refine step_append_lies _ rfl (.tmp 65) (.tmp 69) 32 rfl wb.heap.size 69 iv (.agg #[.int .i64 0,.int .i64 0,.string ⟨#[]⟩]) 3 32 Tryz.underlying32 hiv hv0 hv1 hv2 rfl (by decide) (.slice ja xs.length jc) xs.length _ rfl (HTR.out.alloc _) ⟨_,0,none⟩ 1 1 [.int .i64 t5.vk,.int .i64 t5.vn,.string ⟨t5.vt.toArray⟩] rfl rfl (World.news_of_block (Blk.new _ _ _)) (by simp [Value.oneCell']) (by decide) (by unfold maxLen;omega) (by omega) (by simp;omega) _ rfl ?_;intro g3 cap3 wi hown3 hgrow3 hat3 hlt3;have ai:=(HINH.out.ab.alloc (.cells #[.int .i64 t5.vk,.int .i64 t5.vn,.string ⟨t5.vt.toArray⟩] 69)).grown hgrow3 HNT.out;have z1:=ai.cell 2;have zy:=ai.frozen 2;have zl:=ai.lt;simp only[List.getElem?_toArray,List.getElem?_cons_zero,List.getElem?_cons_succ] at z1)
            | (go_simp;go_at_call 55;refine HW9.out.mono ?_;rintro e wk ⟨rfl,hlk,hmk⟩;have ink:=(HINF.out.keep (bdrew (Below.refl _ _))).line hmk hlk hb0;have x1h:=ink.ab.cell 2;simp only[List.getElem?_toArray,List.getElem?_cons_zero,List.getElem?_cons_succ] at x1h;have xlh:=ink.ab.lt;have HINH:=Lib.hid ink;have HTR:=Lib.hid ink.tr;have hwh:=ink.mt.size;have HNT:=Lib.hid (fun e=>own_blk_ne ink.tr ink.ab (by decide) (Eq.symm e));clear ink hlk hmk))
           all_goals
            have inj:=(HINH.out.keep (balloc (Below.refl _ _) _)).row (x:=⟨t5.vk,t5.vn,t5.vt⟩) (jv':=.slice (some ⟨g3,0,none⟩) (xs.length+1) cap3) hgrow3 (Nat.le_refl _) hown3
            have xj:=inj.ab.cell 2
            simp only[List.getElem?_toArray,List.getElem?_cons_zero,List.getElem?_cons_succ] at xj
            have HINJ:=Lib.hid inj
            have HXJ:=Lib.hid xj
            clear inj xj hown3 hgrow3 hat3 hlt3
            go_wp2_with fail
            go_roundw
            case rel=>exact⟨sf,xs++[⟨t5.vk,t5.vn,t5.vt⟩],f3,some ⟨g3,0,none⟩,cap3,by simp;omega,hmsf,by simp,HGZ,HGL2,Lib.hid (by simpa using HINJ.out)⟩
            case measure =>
             rw[HXJ.out,HXE.out]
             simp
             omega
end Go.Proofs.YtamjadghncnbcaaGreatDoor
