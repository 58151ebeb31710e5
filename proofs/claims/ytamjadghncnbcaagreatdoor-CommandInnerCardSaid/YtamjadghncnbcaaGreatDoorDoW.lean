/- osierref07.Tokens, walked. osierref08.Open, walked. -/
import Derived.Test.YtamjadghncnbcaaGreatDoorLhW
import Derived.Test.YtamjadghncnbcaaGreatDoorGfW
import Derived.Test.YtamjadghncnbcaaGreatDoorGoW
import Derived.Deep.RegionLaw
import Derived.Deep.Cut
import Derived.Deep.CutRange
import Derived.Deep.DeepCutAuto
namespace Go.Proofs.YtamjadghncnbcaaGreatDoor
open Go.RowKit
set_option linter.unusedVariables false
theorem Tryz.infoRTok:(Tryz.prog.info? 105).map (fun i=>(i.zero,i.size,i.bytes))=some (some (.agg #[.int .i64 0,.string ⟨#[]⟩,.int .i64 0,.int .i64 0,.string ⟨#[]⟩,.int .i64 0]),6,64):=by kernel_rfl
def bsL:ByteArray:=⟨#[97,98,99,100,101,102,103,104,105,106,107,108,109,110,111,112,113,114,115,116,117,118,119,120,121,122,65,66,67,68,69,70,71,72,73,74,75,76,77,78,79,80,81,82,83,84,85,86,87,88,89,90,95]⟩
def bsN:ByteArray:=⟨#[97,98,99,100,101,102,103,104,105,106,107,108,109,110,111,112,113,114,115,116,117,118,119,120,121,122,65,66,67,68,69,70,71,72,73,74,75,76,77,78,79,80,81,82,83,84,85,86,87,88,89,90,95,48,49,50,51,52,53,54,55,56,57]⟩
def bsD:ByteArray:=⟨#[48,49,50,51,52,53,54,55,56,57]⟩
def bsM:ByteArray:=⟨#[40,41,44,43,45]⟩
structure Asks (s:ByteArray):Prop where
 al:∀ (c:Int) (w:World),0<=c->c<=255->Calls Tryz.prog 136 #[.int .u8 c,.string ⟨#[97,98,99,100,101,102,103,104,105,106,107,108,109,110,111,112,113,114,115,116,117,118,119,120,121,122,65,66,67,68,69,70,71,72,73,74,75,76,77,78,79,80,81,82,83,84,85,86,87,88,89,90,95]⟩] w fun e w'=>e=.returned (.bool (letB c))/\w=w'
 ad:∀ (c:Int) (w:World),0<=c->c<=255->Calls Tryz.prog 136 #[.int .u8 c,.string ⟨#[48,49,50,51,52,53,54,55,56,57]⟩] w fun e w'=>e=.returned (.bool (digB c))/\w=w'
 am:∀ (c:Int) (w:World),0<=c->c<=255->Calls Tryz.prog 136 #[.int .u8 c,.string ⟨#[40,41,44,43,45]⟩] w fun e w'=>e=.returned (.bool (decide (c=45∨c=40∨c=41∨c=44∨c=43)))/\w=w'
 rb:∀ (i:Nat) (w:World),i<=s.size->Calls Tryz.prog 137 #[.string s,.int .i64 i,.string ⟨#[32,9]⟩] w fun e w'=>e=.returned (.int .i64 (runB [32,9] (s.data.toList.drop i):Nat))/\w=w'
 rn:∀ (i:Nat) (w:World),i<=s.size->Calls Tryz.prog 137 #[.string s,.int .i64 i,.string ⟨#[97,98,99,100,101,102,103,104,105,106,107,108,109,110,111,112,113,114,115,116,117,118,119,120,121,122,65,66,67,68,69,70,71,72,73,74,75,76,77,78,79,80,81,82,83,84,85,86,87,88,89,90,95,48,49,50,51,52,53,54,55,56,57]⟩] w fun e w'=>e=.returned (.int .i64 (nameRun (s.data.toList.drop i):Nat))/\w=w'
theorem asks (s:ByteArray) (hs:s.size<=281474976710656):Asks s:=by
 refine⟨fun c w h0 h1=>?_,fun c w h0 h1=>?_,fun c w h0 h1=>?_,fun i w hi=>?_,fun i w hi=>?_⟩
 ·have h:=among_any c bsL w (by decide)
  rw[show bsL.data.toList=setL from rfl,among_letters h0 h1] at h
  exact h
 ·have h:=among_any c bsD w (by decide)
  rw[show bsD.data.toList=setD from rfl,among_digits h0 h1] at h
  exact h
 ·have h:=among_any c bsM w (by decide)
  rw[show bsM.data.toList=[40,41,44,43,45] from rfl,among_marks h0 h1] at h
  exact h
 ·exact run_any s i ⟨#[32,9]⟩ w hi hs (by decide)
 ·have h:=run_any s i bsN w hi hs (by decide)
  rw[show bsN.data.toList=setL++setD from rfl,run_names] at h
  exact h
set_option maxHeartbeats 32000000 in
set_option maxRecDepth 100000 in
theorem refTokens_any (s:ByteArray) (w:World) (hs:s.size<=281474976710656) (hg:Glob w) :
 Calls Tryz.prog 75 #[.string s] w (TokPost 105 w (lexR s.data.toList)):=by
 obtain⟨i0,hi0,hz0,hz1,hz2⟩:=info_parts Tryz.infoRTok
 have hsl:s.data.toList.length=s.size:=rfl
 by_cases hlong:16384<s.size
 ·have hE:lexR s.data.toList=⟨[],0,70⟩:=lexR_long hlong
  rw[hE]
  clear hE
  go_enter Tryz.func75,Tryz.ntmps75
  go_wp2_with fail
  go_ret3
  exact⟨none,0,rfl,World.ownsRow_nil _ _ _ _,Below.refl _ _⟩
 have hE:(LX (s.data.toList.drop 0) 0).behind []=lexR s.data.toList:=by
  rw[behind_nil,List.drop_zero,lexR_short (by omega)]
 have hlg:s.size<=16384:=by omega
 have HASK:=asks s hs
 obtain⟨HAL,HAD,HAM,HRB,HRN⟩:=HASK
 have HAL:=Lib.hid HAL
 have HAD:=Lib.hid HAD
 have HAM:=Lib.hid HAM
 have HRB:=Lib.hid HRB
 have HRN:=Lib.hid HRN
 have HSC:=Lib.hid (fun (a:Nat) W=>refScan_any numOk s a W (by omega))
 have HSL:=Lib.hid hsl
 have HE:=Lib.hid hE
 have HG:=Lib.hid hg
 clear hsl hE hg hlong hs
 rename_i HAL0 HAD0 HAM0 HRB0 HRN0
 clear HAL0 HAD0 HAM0 HRB0 HRN0
 generalize lexR s.data.toList=R at *
 generalize hL:s.data.toList=l at *
 have HL:=Lib.hid hL
 clear hL
 go_enter Tryz.func75,Tryz.ntmps75
 go_wp2_with fail
 go_loopw [6,5] (fun ix v wr=>∃ (k:Nat) (acc:List Tok) (a:Option Addr) (cap:Nat),k<=s.size/\ix=.int .i64 k/\v=.slice a acc.length cap/\wr.ownsRow w.heap.size 105 6 (.slice a acc.length cap) acc.length (tcells acc)/\Below w.heap.size w wr/\acc.length<=k/\(LX (l.drop k) k).behind acc=R) (fun ix _ _=>s.size+1 - (intOf ix).toNat)
 case atStart =>
  exact⟨0,[],none,0,Nat.zero_le _,rfl,rfl,World.ownsRow_nil _ _ _ _,Below.refl _ _,by simp,HE.out⟩
 case round =>
  obtain⟨k,acc,a,cap,hk,rfl,rfl,hown,hbel,hacc,hrel⟩:=hrel
  have hrun:=LX_run l k (by have:=HSL.out;omega)
  rw[hrun] at hrel
  have hpast:=run_past l k
  have hrl:=runB_le [32,9] (l.drop k)
  rw[List.length_drop] at hrl
  rw[HSL.out] at hpast hrl
  generalize hn:runB [32,9] (l.drop k)=n at *
  have hrb:=fun W=>HRB.out k W hk
  rw[hn] at hrb
  have HRB':=Lib.hid hrb
  have HR:=Lib.hid hrel
  have HO:=Lib.hid hown
  have HBE:=Lib.hid hbel
  have HPA:=Lib.hid hpast
  have hsz:=hbel.size
  clear hrel hown hbel hrun hpast hrb HRB hn
  obtain⟨K,hKn⟩:∃ K,K=k+n:=⟨_,rfl⟩
  rw[<-hKn] at HR HPA
  have hK:(k:Int)+(n:Int)=(K:Int):=by omega
  have hKs:K<=s.size:=by omega
  have hKk:k<=K:=by omega
  have haK:acc.length<=K:=by omega
  clear hKn hrl hacc
  by_cases hlt:K<s.size
  ·have hbt:=bt_of s K hlt
   rw[HL.out] at hbt
   have hkl:K<l.length:=by have:=HSL.out;omega
   have hbd:=bt_bd l K
   by_cases h35:bt l K=35
   ·have HEE:Hid (R=⟨acc++[endTok s.size],0,0⟩):=Lib.hid (by
     rw[<-HR.out,behind_end acc (.inr (by rw[drop0];exact h35))]
     rw[List.length_drop,HSL.out,Nat.add_sub_cancel' (by omega)])
    rw[h35] at hbt
    clear h35 hbd
    go_wp2_with (first | (go_at_call 137;refine (HRB'.out _).mono ?_;rintro e w' ⟨rfl,rfl⟩) | (at_builtin;refine wpList_append_lies _ rfl (.tmp 30) (.tmp 34) 99 rfl w.heap.size 105 i0 (.agg #[.int .i64 0,.string ⟨#[]⟩,.int .i64 0,.int .i64 0,.string ⟨#[]⟩,.int .i64 0]) 6 64 Tryz.underlying99 hi0 hz0 hz1 hz2 rfl (by decide) (.slice a acc.length cap) acc.length _ rfl (HO.out.alloc _) ⟨_,0,none⟩ 1 1 (endTok s.size).cells rfl rfl (World.news_of_block (Blk.new _ _ _)) (tok_one _) (by decide) ?c3 ?c5 ?c4 _ rfl ?_))
    case c3=>unfold maxLen;omega
    case c5=>omega
    case c4=>simp;omega
    intro g cap1 w2 hown2 hgrow2 hat2 hlt2
    have hb2:Below w.heap.size w w2:=(balloc HBE.out _).grown hgrow2 (by simp;omega) (fun q hq=>(HO.out.lt q hq).1)
    go_wp2_with fail
    go_ret3
    rw[HEE.out]
    refine⟨some ⟨g,0,none⟩,cap1,by simp,?_,hb2⟩
    rw[show (acc++[endTok s.size]).length=acc.length+1 by simp,tcells_snoc]
    exact hown2
   ·have q35:(bt l K == 35)=false:=by rw[beq_eq_false_iff_ne];exact h35
    have hne:¬ (l.drop K=[]∨bt (l.drop K) 0=35):=by
     rw[drop0]
     exact fun e=>e.elim (drop_ne hkl) h35
    have hspf:=HPA.out hlt
    rw[<-drop0] at hspf
    have hls:R=if (oneS (l.drop K) K).2=0 then (LX (l.drop (K+(oneS (l.drop K) K).1.x.length)) (K+(oneS (l.drop K) K).1.x.length)).behind (acc++[(oneS (l.drop K) K).1]) else ⟨[],K,(oneS (l.drop K) K).2⟩:=by
     rw[<-HR.out]
     split
     ·rename_i hz
      rw[behind_one acc hne hspf hz,List.drop_drop]
     ·rename_i hz
      exact behind_bad acc hne hspf hz
    have hlen:=fun hz=>one_len (r:=l.drop K) (p:=K) hz (drop_ne hkl)
    rw[List.length_drop,HSL.out] at hlen
    have HAL':=Lib.hid (fun W=>HAL.out (bt l K) W hbd.1 hbd.2)
    have HAD':=Lib.hid (fun W=>HAD.out (bt l K) W hbd.1 hbd.2)
    have HAM':=Lib.hid (fun W=>HAM.out (bt l K) W hbd.1 hbd.2)
    have HLS:=Lib.hid hls
    have HLEN:=Lib.hid hlen
    clear h35 hne hspf HPA hls hlen
    have hnl:=nameRun_le (l.drop K)
    rw[List.length_drop,HSL.out] at hnl
    have hrnK:=fun W=>HRN.out K W hKs
    generalize hm:nameRun (l.drop K)=m at *
    have HRN':=Lib.hid hrnK
    clear hrnK HRN
    have hKm:(K:Int)+(m:Int)<=s.size:=by omega
    have hKm2:(K:Int)<=(K:Int)+(m:Int):=by omega
    have htm:((K:Int)+(m:Int)).toNat=K+m:=by omega
    have hTT:∃ T:ByteArray,T.data.toList=(l.drop K).take 2/\((K+2<s.size/\(s.extract K s.size).extract 0 2=T)∨(¬ K+2<s.size/\s.extract K s.size=T)):=by
     by_cases h2:K+2<s.size
     ·refine⟨_,?_,.inl ⟨h2,rfl⟩⟩
      rw[ByteArray.data_extract,Array.toList_extract,List.extract_eq_take_drop,extract_drop,HL.out,List.drop_zero]
     ·refine⟨_,?_,.inr ⟨h2,rfl⟩⟩
      rw[extract_drop,HL.out,List.take_of_length_le (by rw[List.length_drop,HSL.out];omega)]
    obtain⟨T,hTl,hT⟩:=hTT
    have hTs:T.size=min 2 (s.size - K):=by
     have:T.data.toList.length=T.size:=rfl
     rw[hTl,List.length_take,List.length_drop,HSL.out] at this
     exact this.symm
    have HTL:=Lib.hid hTl
    have HTS:=Lib.hid hTs
    have hsc:=fun W=>HSC.out K W
    rw[scan_at l K (by have:=HSL.out;omega)] at hsc
    have hlt2:=fun h=>lit_len (r:=l.drop K) (p:=K) h (drop_ne hkl)
    rw[List.length_drop,HSL.out] at hlt2
    have hlit:litS (l.drop K) K=if (scanR (l.drop K) 0).e=0 then (⟨2,(l.drop K).take (scanR (l.drop K) 0).stop.toNat,(scanR (l.drop K) 0).k,(scanR (l.drop K) 0).n,(scanR (l.drop K) 0).t,K⟩,0) else (tok0,(scanR (l.drop K) 0).e):=rfl
    have hlt3:(scanR (l.drop K) 0).e=0->1<=(scanR (l.drop K) 0).stop/\(scanR (l.drop K) 0).stop<=((s.size - K:Nat):Int):=fun h=>(hlt2 (by rw[hlit,if_pos h])).2
    clear hlt2 hTl hTs
    generalize scanR (l.drop K) 0=r at *
    obtain⟨rk,rn,rt,rst,re⟩:=r
    simp only[Res.v] at hsc hlit hlt3
    have HSC':=Lib.hid hsc
    have HLT:=Lib.hid hlt3
    have HLIT:=Lib.hid hlit
    clear hsc hlt3 HSC hlit
    go_wp2_with fail
    refine (HRB'.out _).mono ?_
    rintro e w' ⟨rfl,rfl⟩
    go_upto_if 41 with fail
    go_cut [7] (fun tv wx=>tv=.string T/\wx=wr)
    case first =>
     rcases hT with ⟨h2,hT⟩ | ⟨h2,hT⟩
     all_goals
      go_wp2_with fail
      go_meet
      exact⟨by first | rfl | rw[hT],rfl⟩
    case rest =>
     obtain⟨rfl,rfl⟩:=hcut
     clear hT
     go_wp2_with fail
     refine (HAL'.out _).mono ?_
     rintro e w' ⟨rfl,rfl⟩
     have hlit:=HLIT.out
     cases hlet:letB (bt l K) with
     | true =>
       clear hlit
       have hpos:=nameRun_pos (drop_ne hkl) (by rw[drop0];exact hlet)
       rw[hm] at hpos
       have hoE:oneS (l.drop K) K=if 16<m then (tok0,72) else ((⟨1,(s.extract K (K+m)).data.toList,0,0,[],K⟩:Tok),0):=by
        obtain⟨f0,f1,f2,f3,f4,f5,f6,f7⟩:=let_far hlet
        unfold oneS
        rw[drop0,drop1,if_neg f0,if_neg (by rw[f7];simp;omega),if_neg (by omega),hlet,if_pos rfl,hm,<-HL.out,take_extract]
       have HOE:=Lib.hid hoE
       clear hoE
       go_wp2_with fail
       refine (HRN'.out _).mono ?_
       rintro e w' ⟨rfl,rfl⟩
       by_cases h16:16<m
       ·have HLS2:Hid (R=⟨[],K,72⟩):=Lib.hid (by rw[HLS.out,HOE.out,if_pos h16];rfl)
        go_wp2_with fail
        go_ret3
        rw[HLS2.out]
        exact⟨none,0,rfl,World.ownsRow_nil _ _ _ _,HBE.out⟩
       ·have HLS2:Hid (R=(LX (l.drop (K+m)) (K+m)).behind (acc++[(⟨1,(s.extract K (K+m)).data.toList,0,0,[],K⟩:Tok)])):=Lib.hid (by
         rw[HLS.out,HOE.out,if_neg h16,if_pos rfl]
         have:(s.extract K (K+m)).data.toList.length=m:=by
          rw[<-take_extract,List.length_take,List.length_drop,show s.data.toList.length=s.size from rfl];omega
         simp only[this])
        go_wp2_with (at_builtin;refine wpList_append_lies _ rfl (.tmp 54) (.tmp 63) 99 rfl w.heap.size 105 i0 (.agg #[.int .i64 0,.string ⟨#[]⟩,.int .i64 0,.int .i64 0,.string ⟨#[]⟩,.int .i64 0]) 6 64 Tryz.underlying99 hi0 hz0 hz1 hz2 rfl (by decide) (.slice a acc.length cap) acc.length _ rfl (HO.out.alloc _) ⟨_,0,none⟩ 1 1 (⟨1,(s.extract K (K+m)).data.toList,0,0,[],K⟩:Tok).cells rfl rfl (World.news_of_block (Blk.new _ _ _)) (tok_one _) (by decide) ?c3 ?c5 ?c4 _ rfl ?_)
        case c3=>unfold maxLen;omega
        case c5=>omega
        case c4=>simp;omega
        intro g cap1 w2 hown2 hgrow2 hat2 hlt2
        have hb2:Below w.heap.size w w2:=(balloc HBE.out _).grown hgrow2 (by simp;omega) (fun q hq=>(HO.out.lt q hq).1)
        have HO2:=Lib.hid hown2
        clear hown2
        go_wp2_with fail
        go_roundw
        case rel =>
         refine⟨K+m,acc++[(⟨1,(s.extract K (K+m)).data.toList,0,0,[],K⟩:Tok)],some ⟨g,0,none⟩,cap1,by omega,by go_num,by simp,?_,hb2,by simp;omega,HLS2.out.symm⟩
         rw[show (acc++[(⟨1,(s.extract K (K+m)).data.toList,0,0,[],K⟩:Tok)]).length=acc.length+1 by simp,tcells_snoc]
         have h:=HO2.out
         rw[take_extract] at h
         exact h
        case measure=>simp only[intOf];omega
     | false =>
       by_cases hq34:bt l K=34
       ·have q34:(bt l K == 34)=true:=by simpa using hq34
        have h58:¬ bt l K=58:=by omega
        go_wp2_with fail
        have hoE:oneS (l.drop K) K=litS (l.drop K) K:=by
         unfold oneS
         rw[drop0,drop1,if_neg h58,if_pos (.inl hq34)]
        rw[hlit] at hoE
        refine (HSC'.out _).mono ?_
        rintro e w1 ⟨rfl,hb1⟩
        have hb1':=HBE.out.trans (hb1.mono hsz)
        by_cases hre:re=0
        ·obtain⟨l1,l3⟩:=HLT.out hre
         subst hre
         obtain⟨mm,rfl⟩:=Int.eq_ofNat_of_zero_le (show 0<=rst by omega)
         simp only[if_true,Int.toNat_natCast] at hoE ⊢
         have hx:(l.drop K).take mm=(s.extract K (K+mm)).data.toList:=by rw[<-HL.out];exact take_extract s K mm
         rw[hx] at hoE
         clear hx
         have hxl:(s.extract K (K+mm)).data.toList.length=mm:=by
          rw[<-take_extract,List.length_take,List.length_drop,show s.data.toList.length=s.size from rfl];omega
         have HLS2:Hid (R=(LX (l.drop (K+mm)) (K+mm)).behind (acc++[(⟨2,(s.extract K (K+mm)).data.toList,rk,rn,rt,K⟩:Tok)])):=Lib.hid (by
          rw[HLS.out,hoE,if_pos rfl]
          simp only[hxl])
         have hown1:=(Mod.ofBelow (F:=fun _=>False) hb1).ownsRow HO.out (fun _ _ f=>f)
         have HO1:=Lib.hid hown1
         have HB1:=Lib.hid hb1'
         have kM:(K:Int)+(mm:Int)<=(s.size:Int):=by omega
         have kM2:(K:Int)<=(K:Int)+(mm:Int):=by omega
         have kM3:((K:Int)+(mm:Int)).toNat=K+mm:=by omega
         have hsz1:=hb1'.size
         clear hown1 hb1 hb1' hoE hxl
         go_wp2_with fail
         go_region_law (refine step_append_lies _ rfl (.tmp 105) (.tmp 113) 99 rfl w.heap.size 105 i0 (.agg #[.int .i64 0,.string ⟨#[]⟩,.int .i64 0,.int .i64 0,.string ⟨#[]⟩,.int .i64 0]) 6 64 Tryz.underlying99 hi0 hz0 hz1 hz2 rfl (by decide) (.slice a acc.length cap) acc.length _ rfl ((HO1.out.alloc _).drew.alloc _) ⟨w1.heap.size+1,0,none⟩ 1 1 (⟨2,(s.extract K (K+mm)).data.toList,rk,rn,rt,K⟩:Tok).cells rfl rfl (World.news_of_block (blk_new1 _ _ _ _)) (tok_one _) (by decide) (by unfold maxLen;omega) (by omega) (by simp;omega) _ rfl ?_;intro g cap1 w2 hown2 hgrow2 hat2 hlt2)
         have hb2:Below w.heap.size w w2:=Below.grown (by first | exact balloc (bdrew (balloc HB1.out _)) _ | exact bdrew (balloc (balloc HB1.out _) _) | exact balloc (balloc HB1.out _) _) hgrow2 (by simp;omega) (fun q hq=>(HO1.out.lt q hq).1)
         have HO2:=Lib.hid hown2
         clear hown2
         go_wp2_with fail
         go_roundw
         case rel =>
          refine⟨K+mm,acc++[(⟨2,(s.extract K (K+mm)).data.toList,rk,rn,rt,K⟩:Tok)],some ⟨g,0,none⟩,cap1,by omega,by go_num,by simp,?_,hb2,by simp;omega,HLS2.out.symm⟩
          rw[show (acc++[(⟨2,(s.extract K (K+mm)).data.toList,rk,rn,rt,K⟩:Tok)]).length=acc.length+1 by simp,tcells_snoc]
          first
           | exact HO2.out
           | (have h:=HO2.out;rw[take_extract] at h;exact h)
         case measure=>simp only[intOf];omega
        ·have q0:(re != 0)=true:=by simpa using hre
         have HLS2:Hid (R=⟨[],K,re⟩):=Lib.hid (by rw[HLS.out,hoE,if_neg hre,if_neg (by exact hre)])
         have HB1:=Lib.hid (balloc hb1' (.cells #[.int .i64 rk,.int .i64 rn,.string ⟨rt.toArray⟩] 69))
         simp only[if_neg hre]
         clear hoE hre hb1 hb1'
         go_wp2_with fail
         go_ret3
         rw[HLS2.out]
         exact⟨none,0,rfl,World.ownsRow_nil _ _ _ _,HB1.out⟩
       ·have q34:(bt l K == 34)=false:=by rw[beq_eq_false_iff_ne];exact hq34
        go_wp2_with fail
        refine (HAD'.out _).mono ?_
        rintro e w' ⟨rfl,rfl⟩
        cases hdg:digB (bt l K) with
        | true =>
          have h58:¬ bt l K=58:=by intro h;rw[h] at hdg;simp [digB] at hdg
          go_wp2_with fail
          have hoE:oneS (l.drop K) K=litS (l.drop K) K:=by
           unfold oneS
           rw[drop0,drop1,if_neg h58,if_pos (.inr (.inl hdg))]
          rw[hlit] at hoE
          refine (HSC'.out _).mono ?_
          rintro e w1 ⟨rfl,hb1⟩
          have hb1':=HBE.out.trans (hb1.mono hsz)
          by_cases hre:re=0
          ·obtain⟨l1,l3⟩:=HLT.out hre
           subst hre
           obtain⟨mm,rfl⟩:=Int.eq_ofNat_of_zero_le (show 0<=rst by omega)
           simp only[if_true,Int.toNat_natCast] at hoE ⊢
           have hx:(l.drop K).take mm=(s.extract K (K+mm)).data.toList:=by rw[<-HL.out];exact take_extract s K mm
           rw[hx] at hoE
           clear hx
           have hxl:(s.extract K (K+mm)).data.toList.length=mm:=by
            rw[<-take_extract,List.length_take,List.length_drop,show s.data.toList.length=s.size from rfl];omega
           have HLS2:Hid (R=(LX (l.drop (K+mm)) (K+mm)).behind (acc++[(⟨2,(s.extract K (K+mm)).data.toList,rk,rn,rt,K⟩:Tok)])):=Lib.hid (by
            rw[HLS.out,hoE,if_pos rfl]
            simp only[hxl])
           have hown1:=(Mod.ofBelow (F:=fun _=>False) hb1).ownsRow HO.out (fun _ _ f=>f)
           have HO1:=Lib.hid hown1
           have HB1:=Lib.hid hb1'
           have kM:(K:Int)+(mm:Int)<=(s.size:Int):=by omega
           have kM2:(K:Int)<=(K:Int)+(mm:Int):=by omega
           have kM3:((K:Int)+(mm:Int)).toNat=K+mm:=by omega
           have hsz1:=hb1'.size
           clear hown1 hb1 hb1' hoE hxl
           go_wp2_with fail
           go_region_law (refine step_append_lies _ rfl (.tmp 105) (.tmp 113) 99 rfl w.heap.size 105 i0 (.agg #[.int .i64 0,.string ⟨#[]⟩,.int .i64 0,.int .i64 0,.string ⟨#[]⟩,.int .i64 0]) 6 64 Tryz.underlying99 hi0 hz0 hz1 hz2 rfl (by decide) (.slice a acc.length cap) acc.length _ rfl ((HO1.out.alloc _).drew.alloc _) ⟨w1.heap.size+1,0,none⟩ 1 1 (⟨2,(s.extract K (K+mm)).data.toList,rk,rn,rt,K⟩:Tok).cells rfl rfl (World.news_of_block (blk_new1 _ _ _ _)) (tok_one _) (by decide) (by unfold maxLen;omega) (by omega) (by simp;omega) _ rfl ?_;intro g cap1 w2 hown2 hgrow2 hat2 hlt2)
           have hb2:Below w.heap.size w w2:=Below.grown (by first | exact balloc (bdrew (balloc HB1.out _)) _ | exact bdrew (balloc (balloc HB1.out _) _) | exact balloc (balloc HB1.out _) _) hgrow2 (by simp;omega) (fun q hq=>(HO1.out.lt q hq).1)
           have HO2:=Lib.hid hown2
           clear hown2
           go_wp2_with fail
           go_roundw
           case rel =>
            refine⟨K+mm,acc++[(⟨2,(s.extract K (K+mm)).data.toList,rk,rn,rt,K⟩:Tok)],some ⟨g,0,none⟩,cap1,by omega,by go_num,by simp,?_,hb2,by simp;omega,HLS2.out.symm⟩
            rw[show (acc++[(⟨2,(s.extract K (K+mm)).data.toList,rk,rn,rt,K⟩:Tok)]).length=acc.length+1 by simp,tcells_snoc]
            first
             | exact HO2.out
             | (have h:=HO2.out;rw[take_extract] at h;exact h)
           case measure=>simp only[intOf];omega
          ·have q0:(re != 0)=true:=by simpa using hre
           have HLS2:Hid (R=⟨[],K,re⟩):=Lib.hid (by rw[HLS.out,hoE,if_neg hre,if_neg (by exact hre)])
           have HB1:=Lib.hid (balloc hb1' (.cells #[.int .i64 rk,.int .i64 rn,.string ⟨rt.toArray⟩] 69))
           simp only[if_neg hre]
           clear hoE hre hb1 hb1'
           go_wp2_with fail
           go_ret3
           rw[HLS2.out]
           exact⟨none,0,rfl,World.ownsRow_nil _ _ _ _,HB1.out⟩
        | false =>
          by_cases h45:bt l K=45
          ·have q45:(bt l K == 45)=true:=by simpa using h45
           have h58:¬ bt l K=58:=by omega
           have H45:=Lib.hid h45
           clear h45
           by_cases hK1:K+1<s.size
           ·have hs2:T.size=2:=by have:=HTS.out;omega
            have qs:((T.size:Int) == 2)=true:=by simp [hs2]
            have hT1:1<T.size:=by omega
            have hb1:=bt_of T 1 hT1
            have hgen:bt T.data.toList 1=bt l (K+1):=by
             rw[HTL.out,<-bt_drop l K 1]
             unfold bt
             rw[List.getD_eq_getElem?_getD,List.getD_eq_getElem?_getD,List.getElem?_take_of_lt (by decide)]
            rw[hgen] at hb1
            have hbn:=bt_bd l (K+1)
            have HADN:=Lib.hid (fun W=>HAD.out (bt l (K+1)) W hbn.1 hbn.2)
            clear hgen hbn
            go_wp2_with fail
            refine (HADN.out _).mono ?_
            rintro e w' ⟨rfl,rfl⟩
            cases hdn:digB (bt l (K+1)) with
            | true =>
              go_wp2_with fail
              have hoE:oneS (l.drop K) K=litS (l.drop K) K:=by
               unfold oneS
               rw[drop0,drop1,if_neg h58,if_pos (.inr (.inr ⟨H45.out,hdn⟩))]
              rw[hlit] at hoE
              refine (HSC'.out _).mono ?_
              rintro e w1 ⟨rfl,hb1⟩
              have hb1':=HBE.out.trans (hb1.mono hsz)
              by_cases hre:re=0
              ·obtain⟨l1,l3⟩:=HLT.out hre
               subst hre
               obtain⟨mm,rfl⟩:=Int.eq_ofNat_of_zero_le (show 0<=rst by omega)
               simp only[if_true,Int.toNat_natCast] at hoE ⊢
               have hx:(l.drop K).take mm=(s.extract K (K+mm)).data.toList:=by rw[<-HL.out];exact take_extract s K mm
               rw[hx] at hoE
               clear hx
               have hxl:(s.extract K (K+mm)).data.toList.length=mm:=by
                rw[<-take_extract,List.length_take,List.length_drop,show s.data.toList.length=s.size from rfl];omega
               have HLS2:Hid (R=(LX (l.drop (K+mm)) (K+mm)).behind (acc++[(⟨2,(s.extract K (K+mm)).data.toList,rk,rn,rt,K⟩:Tok)])):=Lib.hid (by
                rw[HLS.out,hoE,if_pos rfl]
                simp only[hxl])
               have hown1:=(Mod.ofBelow (F:=fun _=>False) hb1).ownsRow HO.out (fun _ _ f=>f)
               have HO1:=Lib.hid hown1
               have HB1:=Lib.hid hb1'
               have kM:(K:Int)+(mm:Int)<=(s.size:Int):=by omega
               have kM2:(K:Int)<=(K:Int)+(mm:Int):=by omega
               have kM3:((K:Int)+(mm:Int)).toNat=K+mm:=by omega
               have hsz1:=hb1'.size
               clear hown1 hb1 hb1' hoE hxl
               go_wp2_with fail
               go_region_law (refine step_append_lies _ rfl (.tmp 105) (.tmp 113) 99 rfl w.heap.size 105 i0 (.agg #[.int .i64 0,.string ⟨#[]⟩,.int .i64 0,.int .i64 0,.string ⟨#[]⟩,.int .i64 0]) 6 64 Tryz.underlying99 hi0 hz0 hz1 hz2 rfl (by decide) (.slice a acc.length cap) acc.length _ rfl ((HO1.out.alloc _).drew.alloc _) ⟨w1.heap.size+1,0,none⟩ 1 1 (⟨2,(s.extract K (K+mm)).data.toList,rk,rn,rt,K⟩:Tok).cells rfl rfl (World.news_of_block (blk_new1 _ _ _ _)) (tok_one _) (by decide) (by unfold maxLen;omega) (by omega) (by simp;omega) _ rfl ?_;intro g cap1 w2 hown2 hgrow2 hat2 hlt2)
               have hb2:Below w.heap.size w w2:=Below.grown (by first | exact balloc (bdrew (balloc HB1.out _)) _ | exact bdrew (balloc (balloc HB1.out _) _) | exact balloc (balloc HB1.out _) _) hgrow2 (by simp;omega) (fun q hq=>(HO1.out.lt q hq).1)
               have HO2:=Lib.hid hown2
               clear hown2
               go_wp2_with fail
               go_roundw
               case rel =>
                refine⟨K+mm,acc++[(⟨2,(s.extract K (K+mm)).data.toList,rk,rn,rt,K⟩:Tok)],some ⟨g,0,none⟩,cap1,by omega,by go_num,by simp,?_,hb2,by simp;omega,HLS2.out.symm⟩
                rw[show (acc++[(⟨2,(s.extract K (K+mm)).data.toList,rk,rn,rt,K⟩:Tok)]).length=acc.length+1 by simp,tcells_snoc]
                first
                 | exact HO2.out
                 | (have h:=HO2.out;rw[take_extract] at h;exact h)
               case measure=>simp only[intOf];omega
              ·have q0:(re != 0)=true:=by simpa using hre
               have HLS2:Hid (R=⟨[],K,re⟩):=Lib.hid (by rw[HLS.out,hoE,if_neg hre,if_neg (by exact hre)])
               have HB1:=Lib.hid (balloc hb1' (.cells #[.int .i64 rk,.int .i64 rn,.string ⟨rt.toArray⟩] 69))
               simp only[if_neg hre]
               clear hoE hre hb1 hb1'
               go_wp2_with fail
               go_ret3
               rw[HLS2.out]
               exact⟨none,0,rfl,World.ownsRow_nil _ _ _ _,HB1.out⟩
            | false =>
              have hnlit:¬ (bt l K=34∨digB (bt l K)=true∨bt l K=45/\digB (bt l (K+1))=true):=by
               rintro (h | h | ⟨_,h⟩)
               ·exact hq34 h
               ·rw[hdg] at h;cases h
               ·rw[hdn] at h;cases h
              have hcol:¬ (bt l K=58/\bt l (K+1)=45):=fun h=>h58 h.1
              have qT:(T.toList == [58,45])=false:=by
               rw[beq_eq_false_iff_ne,ByteArray.toList_eq,HTL.out]
               intro h
               apply hcol
               have e0:bt ((l.drop K).take 2) 0=bt [58,45] 0:=by rw[h]
               have e1:bt ((l.drop K).take 2) 1=bt [58,45] 1:=by rw[h]
               have hgen:∀ j,j<2->bt ((l.drop K).take 2) j=bt l (K+j):=fun j hj=>by
                have:=bt_drop l K j
                rw[<-this]
                unfold bt
                rw[List.getD_eq_getElem?_getD,List.getD_eq_getElem?_getD,List.getElem?_take_of_lt hj]
               rw[show bt ((l.drop K).take 2) 0=bt l K from hgen 0 (by decide)] at e0
               rw[show bt ((l.drop K).take 2) 1=bt l (K+1) from hgen 1 (by decide)] at e1
               exact⟨e0,e1⟩
              go_wp2_with fail
              refine (HAM'.out _).mono ?_
              rintro e w' ⟨rfl,rfl⟩
              have hmk:bt l K=45∨bt l K=40∨bt l K=41∨bt l K=44∨bt l K=43:=.inl H45.out
              rw[decide_eq_true hmk]
              have hoE:oneS (l.drop K) K=((⟨3,(s.extract K (K+1)).data.toList,0,0,[],K⟩:Tok),0):=by
               unfold oneS
               rw[drop0,drop1,if_neg (by omega),if_neg hnlit,if_pos hmk,<-HL.out,take_extract]
              have hxl:(s.extract K (K+1)).data.toList.length=1:=by
               rw[<-take_extract,List.length_take,List.length_drop,show s.data.toList.length=s.size from rfl];omega
              have HLS2:Hid (R=(LX (l.drop (K+1)) (K+1)).behind (acc++[(⟨3,(s.extract K (K+1)).data.toList,0,0,[],K⟩:Tok)])):=Lib.hid (by
               rw[HLS.out,hoE,if_pos rfl]
               simp only[hxl])
              have kM:(K:Int)+1<=(s.size:Int):=by omega
              clear hoE hxl hmk hlit hnlit hcol
              go_wp2_with (at_builtin;refine wpList_append_lies _ rfl (.tmp 130) (.tmp 138) 99 rfl w.heap.size 105 i0 (.agg #[.int .i64 0,.string ⟨#[]⟩,.int .i64 0,.int .i64 0,.string ⟨#[]⟩,.int .i64 0]) 6 64 Tryz.underlying99 hi0 hz0 hz1 hz2 rfl (by decide) (.slice a acc.length cap) acc.length _ rfl (HO.out.alloc _) ⟨_,0,none⟩ 1 1 (⟨3,(s.extract K (K+1)).data.toList,0,0,[],K⟩:Tok).cells rfl rfl (World.news_of_block (Blk.new _ _ _)) (tok_one _) (by decide) ?c3 ?c5 ?c4 _ rfl ?_)
              case c3=>unfold maxLen;omega
              case c5=>omega
              case c4=>simp;omega
              intro g cap1 w2 hown2 hgrow2 hat2 hlt2
              have hb2:Below w.heap.size w w2:=(balloc HBE.out _).grown hgrow2 (by simp;omega) (fun q hq=>(HO.out.lt q hq).1)
              have HO2:=Lib.hid hown2
              clear hown2
              go_wp2_with fail
              go_roundw
              case rel =>
               refine⟨K+1,acc++[(⟨3,(s.extract K (K+1)).data.toList,0,0,[],K⟩:Tok)],some ⟨g,0,none⟩,cap1,by omega,by go_num,by simp,?_,hb2,by simp;omega,HLS2.out.symm⟩
               rw[show (acc++[(⟨3,(s.extract K (K+1)).data.toList,0,0,[],K⟩:Tok)]).length=acc.length+1 by simp,tcells_snoc]
               have h:=HO2.out
               rw[take_extract] at h
               exact h
              case measure=>simp only[intOf];omega
           ·have hs2:¬ T.size=2:=by have:=HTS.out;omega
            have qs:((T.size:Int) == 2)=false:=by rw[beq_eq_false_iff_ne];omega
            have hnlit:¬ (bt l K=34∨digB (bt l K)=true∨bt l K=45/\digB (bt l (K+1))=true):=by
             rintro (h | h | ⟨_,h⟩)
             ·exact hq34 h
             ·rw[hdg] at h;cases h
             ·rw[bt_past (by have:=HSL.out;omega)] at h;simp [digB] at h
            have hcol:¬ (bt l K=58/\bt l (K+1)=45):=fun h=>h58 h.1
            have qT:(T.toList == [58,45])=false:=by
             rw[beq_eq_false_iff_ne,ByteArray.toList_eq,HTL.out]
             intro h
             apply hcol
             have e0:bt ((l.drop K).take 2) 0=bt [58,45] 0:=by rw[h]
             have e1:bt ((l.drop K).take 2) 1=bt [58,45] 1:=by rw[h]
             have hgen:∀ j,j<2->bt ((l.drop K).take 2) j=bt l (K+j):=fun j hj=>by
              have:=bt_drop l K j
              rw[<-this]
              unfold bt
              rw[List.getD_eq_getElem?_getD,List.getD_eq_getElem?_getD,List.getElem?_take_of_lt hj]
             rw[show bt ((l.drop K).take 2) 0=bt l K from hgen 0 (by decide)] at e0
             rw[show bt ((l.drop K).take 2) 1=bt l (K+1) from hgen 1 (by decide)] at e1
             exact⟨e0,e1⟩
            go_wp2_with fail
            refine (HAM'.out _).mono ?_
            rintro e w' ⟨rfl,rfl⟩
            have hmk:bt l K=45∨bt l K=40∨bt l K=41∨bt l K=44∨bt l K=43:=.inl H45.out
            rw[decide_eq_true hmk]
            have hoE:oneS (l.drop K) K=((⟨3,(s.extract K (K+1)).data.toList,0,0,[],K⟩:Tok),0):=by
             unfold oneS
             rw[drop0,drop1,if_neg (by omega),if_neg hnlit,if_pos hmk,<-HL.out,take_extract]
            have hxl:(s.extract K (K+1)).data.toList.length=1:=by
             rw[<-take_extract,List.length_take,List.length_drop,show s.data.toList.length=s.size from rfl];omega
            have HLS2:Hid (R=(LX (l.drop (K+1)) (K+1)).behind (acc++[(⟨3,(s.extract K (K+1)).data.toList,0,0,[],K⟩:Tok)])):=Lib.hid (by
             rw[HLS.out,hoE,if_pos rfl]
             simp only[hxl])
            have kM:(K:Int)+1<=(s.size:Int):=by omega
            clear hoE hxl hmk hlit hnlit hcol
            go_wp2_with (at_builtin;refine wpList_append_lies _ rfl (.tmp 130) (.tmp 138) 99 rfl w.heap.size 105 i0 (.agg #[.int .i64 0,.string ⟨#[]⟩,.int .i64 0,.int .i64 0,.string ⟨#[]⟩,.int .i64 0]) 6 64 Tryz.underlying99 hi0 hz0 hz1 hz2 rfl (by decide) (.slice a acc.length cap) acc.length _ rfl (HO.out.alloc _) ⟨_,0,none⟩ 1 1 (⟨3,(s.extract K (K+1)).data.toList,0,0,[],K⟩:Tok).cells rfl rfl (World.news_of_block (Blk.new _ _ _)) (tok_one _) (by decide) ?c3 ?c5 ?c4 _ rfl ?_)
            case c3=>unfold maxLen;omega
            case c5=>omega
            case c4=>simp;omega
            intro g cap1 w2 hown2 hgrow2 hat2 hlt2
            have hb2:Below w.heap.size w w2:=(balloc HBE.out _).grown hgrow2 (by simp;omega) (fun q hq=>(HO.out.lt q hq).1)
            have HO2:=Lib.hid hown2
            clear hown2
            go_wp2_with fail
            go_roundw
            case rel =>
             refine⟨K+1,acc++[(⟨3,(s.extract K (K+1)).data.toList,0,0,[],K⟩:Tok)],some ⟨g,0,none⟩,cap1,by omega,by go_num,by simp,?_,hb2,by simp;omega,HLS2.out.symm⟩
             rw[show (acc++[(⟨3,(s.extract K (K+1)).data.toList,0,0,[],K⟩:Tok)]).length=acc.length+1 by simp,tcells_snoc]
             have h:=HO2.out
             rw[take_extract] at h
             exact h
            case measure=>simp only[intOf];omega
          ·have q45:(bt l K == 45)=false:=by rw[beq_eq_false_iff_ne];exact h45
           have hnlit:¬ (bt l K=34∨digB (bt l K)=true∨bt l K=45/\digB (bt l (K+1))=true):=by
            rintro (h | h | ⟨h,_⟩)
            ·exact hq34 h
            ·rw[hdg] at h;cases h
            ·exact h45 h
           by_cases hcol:bt l K=58/\bt l (K+1)=45
           ·have hK1:K+1<s.size:=by
             rcases Nat.lt_or_ge (K+1) s.size with h | h
             ·exact h
             ·have:=hcol.2
              rw[bt_past (by have:=HSL.out;omega)] at this;omega
            have hoE:oneS (l.drop K) K=((⟨3,[58,45],0,0,[],K⟩:Tok),0):=by
             unfold oneS
             rw[drop0,drop1,if_pos hcol.1,if_pos hcol.2]
            have hT58:T=⟨#[58,45]⟩:=by
             have h1:=HTL.out
             have hk2:(l.drop K).take 2=[58,45]:=by
              have ha:l.drop K=l[K]::l[K+1]'(by have:=HSL.out;omega)::l.drop (K+2):=by
               rw[List.drop_eq_getElem_cons hkl,List.drop_eq_getElem_cons (by have:=HSL.out;omega)]
              have e0:bt l K=(l[K].toNat:Int):=by simp [bt,hkl]
              have e1:bt l (K+1)=((l[K+1]'(by have:=HSL.out;omega)).toNat:Int):=by
               unfold bt;rw[List.getD_eq_getElem?_getD,List.getElem?_eq_getElem (by have:=HSL.out;omega)];rfl
              have f0:l[K]=58:=UInt8.toNat_inj.1 (show l[K].toNat=58 by omega)
              have f1:l[K+1]'(by have:=HSL.out;omega)=45:=UInt8.toNat_inj.1 (show (l[K+1]'(by have:=HSL.out;omega)).toNat=45 by omega)
              rw[ha,f0,f1]
              rfl
             rw[hk2] at h1
             apply ByteArray.ext
             exact Array.toList_inj.1 h1
            have HLS2:Hid (R=(LX (l.drop (K+2)) (K+2)).behind (acc++[(⟨3,[58,45],0,0,[],K⟩:Tok)])):=Lib.hid (by
             rw[HLS.out,hoE,if_pos rfl]
             rfl)
            clear hoE hcol hlit hnlit
            subst hT58
            go_wp2_with (at_builtin;refine wpList_append_lies _ rfl (.tmp 118) (.tmp 122) 99 rfl w.heap.size 105 i0 (.agg #[.int .i64 0,.string ⟨#[]⟩,.int .i64 0,.int .i64 0,.string ⟨#[]⟩,.int .i64 0]) 6 64 Tryz.underlying99 hi0 hz0 hz1 hz2 rfl (by decide) (.slice a acc.length cap) acc.length _ rfl (HO.out.alloc _) ⟨_,0,none⟩ 1 1 (⟨3,[58,45],0,0,[],K⟩:Tok).cells rfl rfl (World.news_of_block (Blk.new _ _ _)) (tok_one _) (by decide) ?c3 ?c5 ?c4 _ rfl ?_)
            case c3=>unfold maxLen;omega
            case c5=>omega
            case c4=>simp;omega
            intro g cap1 w2 hown2 hgrow2 hat2 hlt2
            have hb2:Below w.heap.size w w2:=(balloc HBE.out _).grown hgrow2 (by simp;omega) (fun q hq=>(HO.out.lt q hq).1)
            have HO2:=Lib.hid hown2
            clear hown2
            go_wp2_with fail
            go_roundw
            case rel =>
             refine⟨K+2,acc++[(⟨3,[58,45],0,0,[],K⟩:Tok)],some ⟨g,0,none⟩,cap1,by omega,by go_num,by simp,?_,hb2,by simp;omega,HLS2.out.symm⟩
             rw[show (acc++[(⟨3,[58,45],0,0,[],K⟩:Tok)]).length=acc.length+1 by simp,tcells_snoc]
             exact HO2.out
            case measure=>simp only[intOf];omega
           ·have qT:(T.toList == [58,45])=false:=by
             rw[beq_eq_false_iff_ne,ByteArray.toList_eq,HTL.out]
             intro h
             apply hcol
             have e0:bt ((l.drop K).take 2) 0=bt [58,45] 0:=by rw[h]
             have e1:bt ((l.drop K).take 2) 1=bt [58,45] 1:=by rw[h]
             have hgen:∀ j,j<2->bt ((l.drop K).take 2) j=bt l (K+j):=fun j hj=>by
              have:=bt_drop l K j
              rw[<-this]
              unfold bt
              rw[List.getD_eq_getElem?_getD,List.getD_eq_getElem?_getD,List.getElem?_take_of_lt hj]
             rw[show bt ((l.drop K).take 2) 0=bt l K from hgen 0 (by decide)] at e0
             rw[show bt ((l.drop K).take 2) 1=bt l (K+1) from hgen 1 (by decide)] at e1
             exact⟨e0,e1⟩
            go_wp2_with fail
            refine (HAM'.out _).mono ?_
            rintro e w' ⟨rfl,rfl⟩
            by_cases hmk:bt l K=45∨bt l K=40∨bt l K=41∨bt l K=44∨bt l K=43
            ·rw[decide_eq_true hmk]
             have hoE:oneS (l.drop K) K=((⟨3,(s.extract K (K+1)).data.toList,0,0,[],K⟩:Tok),0):=by
              unfold oneS
              rw[drop0,drop1,if_neg (by omega),if_neg hnlit,if_pos hmk,<-HL.out,take_extract]
             have hxl:(s.extract K (K+1)).data.toList.length=1:=by
              rw[<-take_extract,List.length_take,List.length_drop,show s.data.toList.length=s.size from rfl];omega
             have HLS2:Hid (R=(LX (l.drop (K+1)) (K+1)).behind (acc++[(⟨3,(s.extract K (K+1)).data.toList,0,0,[],K⟩:Tok)])):=Lib.hid (by
              rw[HLS.out,hoE,if_pos rfl]
              simp only[hxl])
             have kM:(K:Int)+1<=(s.size:Int):=by omega
             clear hoE hxl hmk hlit hnlit hcol
             go_wp2_with (at_builtin;refine wpList_append_lies _ rfl (.tmp 130) (.tmp 138) 99 rfl w.heap.size 105 i0 (.agg #[.int .i64 0,.string ⟨#[]⟩,.int .i64 0,.int .i64 0,.string ⟨#[]⟩,.int .i64 0]) 6 64 Tryz.underlying99 hi0 hz0 hz1 hz2 rfl (by decide) (.slice a acc.length cap) acc.length _ rfl (HO.out.alloc _) ⟨_,0,none⟩ 1 1 (⟨3,(s.extract K (K+1)).data.toList,0,0,[],K⟩:Tok).cells rfl rfl (World.news_of_block (Blk.new _ _ _)) (tok_one _) (by decide) ?c3 ?c5 ?c4 _ rfl ?_)
             case c3=>unfold maxLen;omega
             case c5=>omega
             case c4=>simp;omega
             intro g cap1 w2 hown2 hgrow2 hat2 hlt2
             have hb2:Below w.heap.size w w2:=(balloc HBE.out _).grown hgrow2 (by simp;omega) (fun q hq=>(HO.out.lt q hq).1)
             have HO2:=Lib.hid hown2
             clear hown2
             go_wp2_with fail
             go_roundw
             case rel =>
              refine⟨K+1,acc++[(⟨3,(s.extract K (K+1)).data.toList,0,0,[],K⟩:Tok)],some ⟨g,0,none⟩,cap1,by omega,by go_num,by simp,?_,hb2,by simp;omega,HLS2.out.symm⟩
              rw[show (acc++[(⟨3,(s.extract K (K+1)).data.toList,0,0,[],K⟩:Tok)]).length=acc.length+1 by simp,tcells_snoc]
              have h:=HO2.out
              rw[take_extract] at h
              exact h
             case measure=>simp only[intOf];omega
            ·rw[decide_eq_false hmk]
             have hoE:oneS (l.drop K) K=(tok0,71):=by
              unfold oneS
              rw[drop0,drop1]
              by_cases h58:bt l K=58
              ·rw[if_pos h58,if_neg (fun h=>hcol ⟨h58,h⟩)]
              ·rw[if_neg h58,if_neg hnlit,if_neg hmk,hlet]
               rfl
             have HLS2:Hid (R=⟨[],K,71⟩):=Lib.hid (by rw[HLS.out,hoE];rfl)
             clear hoE hmk hlit hnlit hcol
             go_wp2_with fail
             go_ret3
             rw[HLS2.out]
             exact⟨none,0,rfl,World.ownsRow_nil _ _ _ _,HBE.out⟩
  ·have hge:(s.size:Int)<=(K:Int):=by omega
   have HEE:Hid (R=⟨acc++[endTok s.size],0,0⟩):=Lib.hid (by
    rw[<-HR.out,behind_end acc (.inl (List.drop_of_length_le (by have:=HSL.out;omega)))]
    rw[List.length_drop,HSL.out,show K+(s.size - K)=s.size by omega])
   go_wp2_with (first | (go_at_call 137;refine (HRB'.out _).mono ?_;rintro e w' ⟨rfl,rfl⟩) | (at_builtin;refine wpList_append_lies _ rfl (.tmp 30) (.tmp 34) 99 rfl w.heap.size 105 i0 (.agg #[.int .i64 0,.string ⟨#[]⟩,.int .i64 0,.int .i64 0,.string ⟨#[]⟩,.int .i64 0]) 6 64 Tryz.underlying99 hi0 hz0 hz1 hz2 rfl (by decide) (.slice a acc.length cap) acc.length _ rfl (HO.out.alloc _) ⟨_,0,none⟩ 1 1 (endTok s.size).cells rfl rfl (World.news_of_block (Blk.new _ _ _)) (tok_one _) (by decide) ?c3 ?c5 ?c4 _ rfl ?_))
   case c3=>unfold maxLen;omega
   case c5=>omega
   case c4=>simp;omega
   intro g cap1 w2 hown2 hgrow2 hat2 hlt2
   have hb2:Below w.heap.size w w2:=(balloc HBE.out _).grown hgrow2 (by simp;omega) (fun q hq=>(HO.out.lt q hq).1)
   go_wp2_with fail
   go_ret3
   rw[HEE.out]
   refine⟨some ⟨g,0,none⟩,cap1,by simp,?_,hb2⟩
   rw[show (acc++[endTok s.size]).length=acc.length+1 by simp,tcells_snoc]
   exact hown2
def startS (R:LxR):LS:=if R.e=0 then .ok R.ts else .bad R.at_ R.e
theorem startS_good (l:List UInt8):Good (startS (lexR l)):=by
 unfold startS
 by_cases h:(lexR l).e=0
 ·rw[if_pos h]
  exact (lex_ended h).1
 ·rw[if_neg h]
  exact h
set_option maxHeartbeats 1000000 in
set_option maxRecDepth 100000 in
theorem refOpen_any (s:ByteArray) (w:World) (hs:s.size<=281474976710656) (hg:Glob w) :
 Calls Tryz.prog 51 #[.string s] w fun e w'=>∃ b vt,e=.returned (.pointer (some ⟨b,0,none⟩))/\w.heap.size<=b/\Ln w' b (startS (lexR s.data.toList)) vt/\Below w.heap.size w w':=by
 have ht:=refTokens_any s w hs hg
 have hc:=lexR_count s.data.toList
 have hlen:(lexR s.data.toList).ts.length<=100000:=by
  by_cases hl:16384<s.data.toList.length
  ·unfold lexR
   rw[if_pos hl]
   decide
  ·omega
 have hE:∀ (W:World) (b:Nat) (vt:Value),Blk W b 101 #[vt,.int .i64 0,.int .i64 (lexR s.data.toList).at_,.int .i64 (lexR s.data.toList).e]->W.ownsRow 0 105 6 vt (lexR s.data.toList).ts.length (tcells (lexR s.data.toList).ts)->Ln W b (startS (lexR s.data.toList)) vt:=by
  intro W b vt h1 h2
  refine⟨(lexR s.data.toList).ts,0,_,_,⟨h1,h2,hlen,by decide⟩,?_⟩
  unfold startS
  split
  ·rename_i heq
   split at heq
   ·cases heq
   ·injection heq with e1 e2
    exact⟨e1,e2⟩
  ·rename_i heq
   split at heq
   ·rename_i he
    injection heq with e1
    exact⟨he,e1⟩
   ·cases heq
 have HE:=Lib.hid hE
 have HT:=Lib.hid ht
 clear ht hc hlen hE
 generalize lexR s.data.toList=R at *
 obtain⟨ts,p,e0⟩:=R
 unfold TokPost at HT
 simp only at HT HE
 go_enter Tryz.func51,Tryz.ntmps51
 go_wp2_with fail
 refine HT.out.mono ?_
 rintro e w1 ⟨ad,cap,rfl,hown,hb⟩
 have HB:=Lib.hid hb
 have HO:=Lib.hid (World.ownsRow.low hown (Nat.zero_le _))
 have hz:=hb.size
 clear hown hb
 go_wp2_with fail
 go_ret
 exact⟨w1.heap.size,_,rfl,hz,HE.out _ _ _ (Blk.new _ _ _) (HO.out.alloc _),balloc HB.out _⟩
end Go.Proofs.YtamjadghncnbcaaGreatDoor
