/- reader.Some at api.Change, walked: its slice and the closure's batch lie apart. change.Parse, walked. osierlaw10.awake, walked. A batch's text, read back: plainly. -/
import Derived.Test.YtgopfpjinohncaaGreatDoorDpV
import Derived.Test.YtgopfpjinohncaaGreatDoorLfV
import Derived.Test.YtgopfpjinohncaaGreatDoorRxV
import Derived.Test.YtgopfpjinohncaaGreatDoorJyV
import Derived.KernelRfl
namespace Go.Proofs.YtgopfpjinohncaaGreatDoor
open Go.RowKit
set_option linter.unusedVariables false
theorem own_not_ty {w:World} {base:Nat} {e:TypeId} {size n:Nat} {v:Value} {xs:List Value} {Ts:List TypeId} {k:Nat} (h:w.ownsRow base e size v n xs) (hk:v.ownBlock=some k) (he:e ∉ Ts):¬ tyIn w Ts k:=by
 rcases h.2 with ⟨rfl,_⟩ | ⟨g',cap,cur,rfl,_,hh,_⟩
 ·simp [Value.ownBlock] at hk
 ·have:g'=k:=by simpa [Value.ownBlock] using hk
  subst this
  rintro ⟨cs,t,fr,h1,h2⟩
  rw[hh] at h1
  simp only[Option.some.injEq,Obj.cells.injEq] at h1
  exact he (h1.2.1 ▸ h2)
section
variable {B B' n b r ov : Nat} {w w' : World} {bv : Value} {xs : List ChP} {Ts : List TypeId}
theorem JB.mt (h:JB B n b r ov w bv xs) (hm:MT B' Ts w w') (h1:118 ∉ Ts) (h2:3 ∉ Ts) (h3:53 ∉ Ts) (h4:68 ∉ Ts) (h5:111 ∉ Ts):JB B n b r ov w' bv xs :=
 ⟨Blk.mt h.1 hm h1,h.2.1.mt hm h2,h.2.2.1.mt hm h3,h.2.2.2.mt hm h4 h5⟩
theorem JB.keep (h:JB B n b r ov w bv xs) (hb:Below w.heap.size w w'):JB B n b r ov w' bv xs :=
 h.mt (MT.ofBelow (B:=0) (Ts:=[]) hb) (by simp) (by simp) (by simp) (by simp) (by simp)
theorem JB.lt (h:JB B n b r ov w bv xs):∀ k,bv.ownBlock=some k->B<=k/\k<w.heap.size:=by
 obtain⟨_,_,_,rows,h1,_⟩:=h
 exact fun k hk=>World.ownsRow.lt h1 k hk
theorem JB.grown {base size m:Nat} {v:Value} {ys:List Value} (h:JB B n b r ov w bv xs) (hg:w.grownBy w' v.ownBlock) (ho:w.ownsRow base 68 size v m ys) (hap:∀ k,v.ownBlock=some k->bv.ownBlock≠some k):JB B n b r ov w' bv xs:=by
 obtain⟨h1,h2,h3,rows,h4,h5⟩:=h
 have m1:MT 0 [68] w w':=(MT.refl w).grown hg ho (by simp) (Nat.zero_le _)
 exact⟨Blk.mt h1 m1 (by decide),h2.mt m1 (by decide),h3.mt m1 (by decide),rows,((Mod.refl (fun k=>v.ownBlock=some k) w).grown hg (fun k hk _=>hk)).ownsRow h4 (fun k hk e=>hap k e hk),h5.mono fun q a hh=>hh.mt m1 (by decide)⟩
end
def FB (n k:Nat):Prop:=k=n∨n+3<=k
theorem f1_fb {n b r ov:Nat} {w:World} {bv:Value} {xs:List ChP} (h:JB (n+3) n b r ov w bv xs):∀ k,F1 n w bv k->FB n k:=by
 rintro k (rfl | h1 | h1)
 ·exact .inl rfl
 ·exact .inr h1.1
 ·exact .inr (h.lt k h1).1
def SPB (n b r ov:Nat) (vt:Value) (w:World):PR (List ChP)->Ending->World->Prop
 | .bad a f,e,w'=>e=.panicked [{ v:=faultV a f,recovered:=false }]/\Mod (FB n) w w'/\∃ bv',Blk w' n 53 #[bv']
 | .ok xs c',e,w'=>∃ v bv',e=.returned v/\JB (n+3) n b r ov w' bv' xs/\Rs w' r c' vt/\Mod (FB n) w w'
set_option maxHeartbeats 16000000 in
set_option maxRecDepth 100000 in
theorem some_Chg {n b r ov:Nat} {w:World} {bv:Value} {c:List Tok} {vt:Value} (hj:JB (n+3) n b r ov w bv []) (hc:Rs w r c vt) (hB:n+3<=r) (hw:n+3<=w.heap.size) (hov:n+3<=ov) :
 Calls Tryz.prog 145 #[.pointer (some ⟨r,0,none⟩),.func (.func 143) #[] #[.pointer (some ⟨b,0,none⟩),.pointer (some ⟨n,0,none⟩),.pointer (some ⟨ov,0,none⟩)]] w (SPB n b r ov vt w (someP chgP c)):=by
 obtain⟨i0,hi0,hz0,hz1,hz2⟩:=info_parts Tryz.infoChg
 have hlen:=hc.len
 have hone0:=chgClo_any hj hc (Nat.le_refl _) hB hw hov (by simp;omega)
 have HJ0:=Lib.hid hj
 clear hj hc
 cases hp:chgP c with
 | bad a e =>
   rw[hp] at hone0
   rw[some_bad hp]
   have HO:=Lib.hid hone0
   clear hp hone0
   go_enter Tryz.func145,Tryz.ntmps145
   go_wp2_with fail
   refine HO.out.mono ?_
   rintro e' w1 ⟨rfl,hm⟩
   have HM:Hid (Mod (FB n) w w1/\∃ bv',Blk w1 n 53 #[bv']):=Lib.hid ⟨Mod.mono hm (fun i _ h=>.inr h.1),_,HJ0.out.2.2.1.mt hm (by decide)⟩
   clear hm
   go_wp2_with fail
   exact⟨rfl,rfl,HM.out⟩
 | ok x c1 =>
   rw[hp] at hone0
   rw[some_ok hp]
   have HO:=Lib.hid hone0
   have hl1:=chg_less _ _ _ hp
   clear hp hone0
   have HRES:Hid (restP chgP [x] c1=restP chgP [x] c1):=Lib.hid rfl
   generalize hres:restP chgP [x] c1=RES at HRES ⊢
   clear HRES
   have HRS:=Lib.hid hres
   clear hres
   go_enter Tryz.func145,Tryz.ntmps145
   go_wp2_with fail
   refine HO.out.mono ?_
   rintro e' w1 ⟨bv1,rv,rfl,hrv,hj1,hr1,hm,hown1⟩
   have hsz1:=hm.size
   have bk:Below w1.heap.size w1 (w1.alloc (.cells #[.bool x.1.add,.string ⟨x.1.rel.toArray⟩,rv] 68)):=balloc (Below.refl _ _) _
   have HJ1:=Lib.hid (show JB (n+3) n b r ov _ bv1 [x] from hj1.keep bk)
   have HR1:=Lib.hid (hr1.keep bk)
   have HM1:=Lib.hid ((Mod.mono hm (fun i _ h=>f1_fb HJ0.out i h)).alloc (.cells #[.bool x.1.add,.string ⟨x.1.rel.toArray⟩,rv] 68))
   have HO1:=Lib.hid (World.ownsRow_lit (base:=w.heap.size) (e:=68) (size:=3) w1 #[.bool x.1.add,.string ⟨x.1.rel.toArray⟩,rv] 1 hsz1 (by unfold maxLen;omega) rfl)
   have HAP:Hid (∀ k,(Value.slice (some ⟨w1.heap.size,0,none⟩) 1 1).ownBlock=some k->bv1.ownBlock≠some k):=Lib.hid (fun k hk e=>by
    simp [Value.ownBlock] at hk
    subst hk
    have:=(hj1.lt _ e).2
    omega)
   clear hrv hj1 hr1 hm hown1 bk HO
   go_wp2_with fail
   go_loopw [5] (fun v wr=>∃ (ys:List ChP) (css:List (List Value)) (cc:List Tok) (ad:Option Addr) (cap:Nat) (bw:Value),v=.slice ad ys.length cap/\Hid (wr.ownsRow w.heap.size 68 3 (.slice ad ys.length cap) ys.length css.flatten)/\Hid (JB (n+3) n b r ov wr bw ys)/\Hid (Rs wr r cc vt)/\Hid (Mod (FB n) w wr)/\Hid (restP chgP ys cc=RES)/\Hid (∀ k,(Value.slice ad ys.length cap).ownBlock=some k->bw.ownBlock≠some k)/\ys.length+cc.length<=200000) (fun v _=>200000 - (match v with | .slice _ n _=>n | _=>0))
   case atStart=>exact⟨[x],[[.bool x.1.add,.string ⟨x.1.rel.toArray⟩,rv]],c1,some ⟨w1.heap.size,0,none⟩,1,bv1,rfl,HO1,HJ1,HR1,HM1,HRS,HAP,by simp;omega⟩
   case round =>
    obtain⟨ys,css,cc,ad,cap,bw,rfl,OW,JW,RW,MW,RE,AP,hbd⟩:=hrel
    have HIS:=Lib.hid (is_rs RW.out [44])
    cases him:isM [44] cc with
    | false =>
      have hre:=RE.out
      rw[restP_end ys him] at hre
      rw[him] at HIS
      subst hre
      clear him
      go_wp2_with fail
      refine HIS.out.mono ?_
      rintro e2 w2 ⟨rfl,hb2⟩
      have HB2:=Lib.hid hb2
      clear hb2
      go_wp2_with fail
      go_ret
      exact⟨_,bw,rfl,JW.out.keep HB2.out,RW.out.keep HB2.out,MW.out.trans (Mod.ofBelow (F:=FB n) HB2.out) (fun i _ h=>h)⟩
    | true =>
      obtain⟨t,htk⟩:=isM_tk him
      have hne:1<=cc.length:=by
       cases cc with
       | nil=>simp [isM] at him
       | cons _ _=>simp
      have hdl:(cc.drop 1).length=cc.length - 1:=List.length_drop ..
      rw[him] at HIS
      have HIM:=Lib.hid him
      have HTK:=Lib.hid htk
      clear him htk
      go_wp2_with fail
      refine HIS.out.mono ?_
      rintro e2 w2 ⟨rfl,hb2⟩
      have HMK:=Lib.hid (mark_rs (B:=n+3) (Ts:=[213]) (RW.out.keep hb2) [44] hB (by simp))
      rw[HTK.out] at HMK
      have HB2:=Lib.hid hb2
      clear hb2
      go_wp2_with fail
      refine HMK.out.mono ?_
      rintro e3 w3 ⟨v3,rfl,⟨rfl,hr3⟩,hm3⟩
      have m03:MT (n+3) [213] wr w3:=(MT.ofBelow HB2.out).trans hm3
      have hwr:=MW.out.size
      have hs03:=m03.size
      have hj3:=JW.out.mt m03 (by decide) (by decide) (by decide) (by decide) (by decide)
      have hone3:=chgClo_any hj3 hr3 (Nat.le_refl _) hB (by omega) hov (by omega)
      have HJ3:=Lib.hid hj3
      have OW3:=Lib.hid (m03.ownsRow OW.out (by decide))
      have HM3:=Lib.hid (MW.out.trans m03 (fun i _ h=>.inr h.1))
      clear hr3 hm3 m03 hj3
      unfold Tok.v
      cases hp:chgP (cc.drop 1) with
      | bad a e =>
        rw[hp] at hone3
        have hre:=RE.out
        rw[restP_bad ys HIM.out hp] at hre
        subst hre
        have HO3:=Lib.hid hone3
        clear hp hone3
        go_wp2_with fail
        refine HO3.out.mono ?_
        rintro e4 w4 ⟨rfl,hm4⟩
        have HM4:Hid (Mod (FB n) w w4/\∃ bv',Blk w4 n 53 #[bv']):=Lib.hid ⟨HM3.out.trans hm4 (fun i _ h=>.inr h.1),_,HJ3.out.2.2.1.mt hm4 (by decide)⟩
        clear hm4
        go_wp2_with fail
        exact⟨rfl,rfl,HM4.out⟩
      | ok x c4 =>
        rw[hp] at hone3
        have hre:=restP_ok chg_less ys HIM.out hp
        have hl4:=chg_less _ _ _ hp
        have hrq:=hre.1
        rw[RE.out] at hrq
        have HRE:=Lib.hid hrq.symm
        have HO3:=Lib.hid hone3
        clear hp hone3 hre hrq
        go_wp2_with fail
        refine HO3.out.mono ?_
        rintro e4 w4 ⟨bv4,rv4,rfl,hrv4,hj4,hr4,hm4,hown4⟩
        have ho4:=hm4.ownsRow OW3.out (fun k hk hf=>by
         rcases hf with rfl | hf | hf
         ·exact own_blk_ne OW3.out HJ3.out.2.2.1 (by decide) hk
         ·exact own_not_ty OW3.out hk (by decide) hf.2
         ·exact AP.out k hk hf)
        have hap4:∀ k,(Value.slice ad ys.length cap).ownBlock=some k->bv4.ownBlock≠some k:=fun k hk e=>by
         rcases hown4 k e with h | h
         ·exact AP.out k hk h
         ·have:=(World.ownsRow.lt OW3.out k hk).2
          omega
        have HO4:=Lib.hid ho4
        have HAP4:=Lib.hid hap4
        have HM4:=Lib.hid (HM3.out.trans hm4 (fun i _ h=>f1_fb HJ3.out i h))
        have hsz4:=HM4.out.size
        have HRV4:=Lib.hid hrv4
        have HJ4:=Lib.hid hj4
        have HR4:=Lib.hid hr4
        clear ho4 hap4 hrv4 hj4 hr4 hm4 hown4
        generalize x.1.add=xa at *
        go_wp2_with (at_builtin;refine wpList_append_lies _ rfl (.tmp 13) (.tmp 16) 53 rfl w.heap.size 68 i0 (.agg #[.bool false,.string ⟨#[]⟩,.slice none 0 0]) 3 48 Tryz.underlying53 hi0 hz0 hz1 hz2 rfl (by decide) (.slice ad ys.length cap) ys.length _ rfl (HO4.out.alloc _) ⟨_,0,none⟩ 1 1 [.bool xa,.string ⟨x.1.rel.toArray⟩,rv4] rfl rfl (World.news_of_block (Blk.new _ _ _)) (by intro z hz;simp only[List.mem_cons,List.not_mem_nil,or_false] at hz;rcases hz with rfl | rfl | rfl;rfl;rfl;exact HRV4.out) (by decide) ?c3 ?c5 ?c4 _ rfl ?_)
        case c3=>unfold maxLen;omega
        case c5=>omega
        case c4=>simp;omega
        intro g cap1 w5 hown2 hgrow2 hat2 hlt2
        have bk:Below w4.heap.size w4 (w4.alloc (.cells #[.bool xa,.string ⟨x.1.rel.toArray⟩,rv4] 68)):=balloc (Below.refl _ _) _
        have hj5:=(HJ4.out.keep bk).grown hgrow2 (HO4.out.alloc _) HAP4.out
        have m45:MT 0 [68] w4 w5:=((MT.refl w4).alloc _).grown hgrow2 (HO4.out.alloc _) (by simp) (Nat.zero_le _)
        have hr5:=HR4.out.mt m45 (by decide) (by decide)
        have hm5:Mod (FB n) w w5:=(HM4.out.alloc _).grown hgrow2 (fun k hk _=>.inr (by have:=(World.ownsRow.lt HO4.out k hk).1;omega))
        have hap5:∀ k,(Value.slice (some ⟨g,0,none⟩) (ys.length+1) cap1).ownBlock=some k->bv4.ownBlock≠some k:=fun k hk e=>by
         simp [Value.ownBlock] at hk
         subst hk
         rcases hat2 with h | h
         ·exact HAP4.out _ h e
         ·have:=(HJ4.out.lt _ e).2
          omega
        have HO5:=Lib.hid hown2
        have HJ5:=Lib.hid hj5
        have HR5:=Lib.hid hr5
        have HM5:=Lib.hid hm5
        have HAP5:=Lib.hid hap5
        clear hown2 hgrow2 hat2 hlt2 bk hj5 m45 hr5 hm5 hap5
        go_wp2_with fail
        go_roundw
        case rel =>
         refine⟨ys++[x],css++[[.bool xa,.string ⟨x.1.rel.toArray⟩,rv4]],c4,some ⟨g,0,none⟩,cap1,bv4,by simp,Lib.hid ?_,HJ5,HR5,HM5,HRE,Lib.hid ?_,by simp;omega⟩
         ·have:=HO5.out
          simpa [List.flatten_append] using this
         ·simpa using HAP5.out
        case measure=>simp;omega
set_option maxHeartbeats 8000000 in
set_option maxRecDepth 100000 in
theorem batch_good (s:ByteArray) (w:World) (ts:List Tok) (hop:∀ W,Below w.heap.size w W->Calls Tryz.prog 54 #[.string s] W fun e w'=>∃ r vt,e=.returned (.pointer (some ⟨r,0,none⟩))/\W.heap.size<=r/\Rs w' r ts vt/\Below W.heap.size W w') :
 Calls Tryz.prog 63 #[.string s] w (BPost w (batchT ts)):=by
 have hmf:∀ (fn:Fn) (first cap:Array Value) (w:World),(Instr.makeFunc fn first cap).run Tryz.prog w=.ok (.func fn first cap) w:=fun _ _ _ _=>rfl
 have hf0:∀ (a b c d e f:Value) (w:World),(Instr.field 122 (.agg #[a,b,c,d,e,f]) 0).run Tryz.prog w=.ok a w:=fun _ _ _ _ _ _ _=>by kernel_rfl
 have hps:=PB.start w
 have ho:=hop _ hps.b
 have HPS:=Lib.hid hps
 have HO:=Lib.hid ho
 obtain⟨Q,hQ⟩:∃ Q,Q=batchT ts:=⟨_,rfl⟩
 rw[<-hQ]
 have HQ:=Lib.hid hQ
 clear hps ho hop hQ
 go_enter_defers Tryz.func63,Tryz.ntmps63
 go_wp2_with fail
 refine HO.out.mono ?_
 rintro e w1 ⟨r,vt,rfl,hr,hrs,hb⟩
 have hp:=HPS.out.keep hb
 have hrB:w.heap.size+3<=r:=by simp at hr;omega
 have bk:Below w1.heap.size w1 ((w1.alloc (.cells #[.pointer (some ⟨r,0,none⟩)] 118)).alloc (.cells #[.int .i64 (-1)] 3)):=balloc (balloc (Below.refl _ _) _) _
 have hp1:=hp.keep bk
 have hi:InB ((w1.alloc (.cells #[.pointer (some ⟨r,0,none⟩)] 118)).alloc (.cells #[.int .i64 (-1)] 3)) w1.heap.size r:=(Blk.new _ _ _).alloc _
 have hob:=blkNew1 w1 (.cells #[.pointer (some ⟨r,0,none⟩)] 118) 3 #[.int .i64 (-1)]
 have hjb:JB (w.heap.size+3) w.heap.size w1.heap.size r (w1.heap.size+1) ((w1.alloc (.cells #[.pointer (some ⟨r,0,none⟩)] 118)).alloc (.cells #[.int .i64 (-1)] 3)) (.slice none 0 0) [] :=
  ⟨hi,hob,hp1.q,[],World.ownsRow_nil _ _ _ _,trivial⟩
 have hr1:=hrs.keep bk
 have hnb:w.heap.size+3<=w1.heap.size:=hp.s
 have hl0:=hrs.len
 obtain⟨ts',i',_,_,hend⟩:=hrs
 obtain⟨t,c,rfl⟩:=hend.some
 have HPK:=Lib.hid (peek_rs hr1)
 have HP1:=Lib.hid hp1
 have HJ1:=Lib.hid hjb
 have HR1:=Lib.hid hr1
 have hib:=Blk.lt hi
 have hobl:=hob.lt
 have x0:=Blk.cell hi 0
 have o0:=hob.cell 0
 simp only[List.getElem?_toArray,List.getElem?_cons_zero] at x0 o0
 clear hb hp hr bk hp1 hi hob hjb hr1 hend HPS HO
 obtain⟨W2,hW2⟩:∃ W2,(w1.alloc (.cells #[.pointer (some ⟨r,0,none⟩)] 118)).alloc (.cells #[.int .i64 (-1)] 3)=W2:=⟨_,rfl⟩
 rw[hW2] at HPK HP1 HJ1 HR1 x0 o0 hib hobl
 have HW2:=Lib.hid hW2
 clear hW2
 by_cases ht:t.k=0
 case' pos =>
  have hcs:chgsP (t::c)=.ok [] (t::c):=by
   unfold chgsP
   rw[if_pos (by simp [endT,ht])]
  have htk0:(t.k != 0)=false:=by simp [ht]
  have HCS:=Lib.hid hcs
  clear hcs
  go_wp2_with fail
  rw[HW2.out]
  refine HPK.out.mono ?_
  rintro e w3 ⟨rfl,hb3⟩
  have h3:∃ (l:List ChP) (c1:List Tok) (bv:Value),chgsP (t::c)=.ok l c1/\PB w w.heap.size bv w3/\JB (w.heap.size+3) w.heap.size w1.heap.size r (w1.heap.size+1) w3 bv l/\Rs w3 r c1 vt :=
   ⟨_,_,_,HCS.out,HP1.out.keep hb3,HJ1.out.keep hb3,HR1.out.keep hb3⟩
  clear HCS
  obtain⟨l,c1,bv',hcs,hp3,hj3,hr3⟩:=h3
  have HCS:=Lib.hid hcs
  have HP3:=Lib.hid hp3
  have HJ3:=Lib.hid hj3
  have HR3:=Lib.hid hr3
  have x03:=Blk.cell hj3.1 0
  have xl3:=Blk.lt hj3.1
  simp only[List.getElem?_toArray,List.getElem?_cons_zero] at x03
  clear hcs hp3 hj3 hr3
  clear hb3 HPK HP1 HJ1 HR1
  unfold Tok.v
  go_wp2_with fail
 case' neg =>
  have hcs:chgsP (t::c)=someP chgP (t::c):=by
   unfold chgsP
   rw[if_neg (by simp [endT,ht])]
  have htk0:(t.k != 0)=true:=by simpa using ht
  have HCS0:=Lib.hid hcs
  clear hcs
  go_wp2_with fail
  rw[HW2.out]
  refine HPK.out.mono ?_
  rintro e w2 ⟨rfl,hb3⟩
  have hj2:=HJ1.out.keep hb3
  have x02:=Blk.cell hj2.1 0
  have xl2:=Blk.lt hj2.1
  simp only[List.getElem?_toArray,List.getElem?_cons_zero] at x02
  have HP2:=Lib.hid (HP1.out.keep hb3)
  have hsm:=some_Chg hj2 (HR1.out.keep hb3) hrB HP2.out.s (by omega)
  clear hb3 HPK HP1 HJ1 HR1 hj2
  unfold Tok.v
  cases hsp:someP chgP (t::c)
  case bad a e =>
   have hq:=HQ.out
   rw[batchT_bad1 (HCS0.out.trans hsp)] at hq
   subst hq
   rw[hsp] at hsm
   have HSM:=Lib.hid hsm
   clear hsm hsp
   go_wp2_with fail
   refine HSM.out.mono ?_
   rintro e wx ⟨rfl,hm,bv',hq⟩
   have HPX:=Lib.hid (HP2.out.mod hm (fun k h=>h) hq)
   clear hm hq
   go_wp2_with fail
   exact batch_door HPX.out rfl rfl rfl
  case' ok l c1 =>
   have hcs:=HCS0.out.trans hsp
   rw[hsp] at hsm
   have HSM:=Lib.hid hsm
   have HCS:=Lib.hid hcs
   clear hsm hsp hcs
   go_wp2_with fail
   refine HSM.out.mono ?_
   rintro e w3 ⟨v3,bv',rfl,hj3,hr3,hm3⟩
   have HP3:=Lib.hid (HP2.out.mod hm3 (fun k h=>h) hj3.2.2.1)
   have HJ3:=Lib.hid hj3
   have HR3:=Lib.hid hr3
   have x03:=Blk.cell hj3.1 0
   have xl3:=Blk.lt hj3.1
   simp only[List.getElem?_toArray,List.getElem?_cons_zero] at x03
   clear hj3 hr3 hm3
   go_wp2_with fail
 all_goals
  have htk:=take_rs (B:=w.heap.size+3) (Ts:=[213]) HR3.out 0 [] _ (tx_nil _) hrB (by simp)
  have hbv:∃ ba bc,bv'=.slice ba l.length bc:=by
   obtain⟨_,_,_,brows,bown,_⟩:=HJ3.out
   obtain⟨ba,bc,e⟩:=own_sl bown
   exact⟨ba,bc,by rw[e,List.length_map]⟩
  obtain⟨ba,bc,rfl⟩:=hbv
  cases h0:tk 0 [] c1 with
  | bad a e =>
    have hq:=HQ.out
    rw[batchT_bad2 HCS.out h0] at hq
    subst hq
    rw[h0] at htk
    have HTK:=Lib.hid htk
    clear htk h0
    refine HTK.out.mono ?_
    rintro e wx ⟨rfl,hm⟩
    have HPX:=Lib.hid (HP3.out.mt hm)
    clear hm
    go_wp2_with fail
    exact batch_door HPX.out rfl rfl rfl
  | ok u c2 =>
    have hq:=HQ.out
    rw[batchT_ok HCS.out h0] at hq
    have HQ2:=Lib.hid hq
    rw[h0] at htk
    have HTK:=Lib.hid htk
    clear htk h0 hq
    refine HTK.out.mono ?_
    rintro e w5 ⟨v5,rfl,⟨rfl,hr5⟩,hm5⟩
    have hp5:=HP3.out.mt hm5
    obtain⟨_,hob3,_,hown3⟩:=HJ3.out
    have hob5:=hob3.mt hm5 (by decide)
    have o0:=hob5.cell 0
    have ol:=hob5.lt
    simp only[List.getElem?_toArray,List.getElem?_cons_zero] at o0
    have HOW5:=Lib.hid (hown3.mt hm5 (by decide) (by decide))
    have HP5:=Lib.hid hp5
    clear hr5 hm5 hp5 hob3 hob5 hown3 HTK HJ3 HR3 HP3 x03 xl3
    unfold Tok.v
    obtain⟨op,hop⟩:∃ op,overP l=op:=⟨_,rfl⟩
    rw[hop] at o0
    have HOP:=Lib.hid hop
    clear hop
    by_cases hov:0<=op
    ·have hq:=HQ2.out
     unfold chkB at hq
     rw[HOP.out,if_pos hov] at hq
     subst hq
     have hd:decide (0<=op)=true:=decide_eq_true hov
     go_wp2_with fail
     exact batch_door HP5.out rfl rfl rfl
    ·have hq:=HQ2.out
     unfold chkB at hq
     rw[HOP.out,if_neg hov] at hq
     subst hq
     have hd:decide (0<=op)=false:=decide_eq_false hov
     have z0:=HP5.out.q.cell 0
     have z3:=HP5.out.a.cell 0
     have z4:=HP5.out.e.cell 0
     simp only[List.getElem?_toArray,List.getElem?_cons_zero] at z0 z3 z4
     have u0:=HP5.out.q.frozen 0
     have u3:=HP5.out.a.frozen 0
     have u4:=HP5.out.e.frozen 0
     have hnl14:=HP5.out.q.lt
     have hna14:=HP5.out.a.lt
     have hne14:=HP5.out.e.lt
     obtain⟨hfin,mfin⟩:=HP5.out.fin
     have hpost:BPost w (.ok (l.map (·.1)) []) (.returned (.tuple #[.slice ba l.length bc,.int .i64 0,.int .i64 0])) _:=⟨_,rfl,(HOW5.out.mt mfin (by decide) (by decide)).low (by omega),hfin.b⟩
     have HFIN:=Lib.hid hfin
     have HPOST:=Lib.hid hpost
     clear hfin mfin hpost
     go_wp2_with fail
     exact batch_exit HFIN.out rfl rfl rfl rfl HPOST.out
theorem batch_line (s:ByteArray) (w:World) (hs:s.size<=281474976710656) (hg:Glob w) (he:(lexR s.data.toList).e=0) :
 Calls Tryz.prog 63 #[.string s] w (BPost w (batchT (lexR s.data.toList).ts)) :=
 batch_good s w _ fun W hb=>open_good s W hs (hg.below hb) he
theorem batch_fault (s:ByteArray) (w:World) (hs:s.size<=281474976710656) (hg:Glob w) (he:(lexR s.data.toList).e≠0) :
 Calls Tryz.prog 63 #[.string s] w (BPost w (.bad (lexR s.data.toList).at_ (lexR s.data.toList).e)) :=
 batch_bad s w _ _ fun W hb=>open_bad s W hs (hg.below hb) he
def parseB (s:List UInt8):PR (List Chg):=if (lexR s).e=0 then batchT (lexR s).ts else .bad (lexR s).at_ (lexR s).e
theorem batch_any (s:ByteArray) (w:World) (hs:s.size<=281474976710656) (hg:Glob w) :
 Calls Tryz.prog 63 #[.string s] w (BPost w (parseB s.data.toList)):=by
 unfold parseB
 by_cases he:(lexR s.data.toList).e=0
 ·rw[if_pos he]
  exact batch_line s w hs hg he
 ·rw[if_neg he]
  exact batch_fault s w hs hg he
theorem parseB_sure (l:List UInt8):match parseB l with
 | .bad a e=>0<=a/\a<=l.length/\e≠0
 | .ok b _=>b.length<=256/\∀ c∈b,isNameB c.rel=true/\∀ u∈c.row,validB u.k u.n u.t=true/\RangeV u:=by
 unfold parseB
 by_cases he:(lexR l).e=0
 ·rw[if_pos he]
  exact batchT_sure (lex_toksQ he (lex_ended he).1)
 ·rw[if_neg he]
  have:=lex_placeQ l he
  exact⟨this.1,this.2,he⟩
end Go.Proofs.YtgopfpjinohncaaGreatDoor
