/- What the document reads as a query, and how small it is. The document reads a line as a batch. osierref25.Parse at every line. -/
import Derived.Test.YtamjadghncnbcaaGreatDoorFq1ZW
import Derived.Test.YtamjadghncnbcaaGreatDoorDoW
import Derived.Test.YtamjadghncnbcaaGreatDoorDcW
import Derived.Test.YtamjadghncnbcaaGreatDoorDqW
import Derived.Test.YtamjadghncnbcaaGreatDoorBbW
import Derived.Test.YtamjadghncnbcaaGreatDoorDvW
namespace Go.Proofs.YtamjadghncnbcaaGreatDoor
open Go.RowKit
set_option linter.unusedVariables false
theorem glob_alloc {w:World} (hg:Glob w) (o:Obj):Glob (w.alloc o):=hg.below (balloc (Below.refl _ _) o)
theorem refParse_line (s:ByteArray) (w:World) (hs:s.size<=281474976710656) (hg:Glob w) :
 Calls Tryz.prog 57 #[.string s] w (QPost w (refQ (startS (lexR s.data.toList)))):=by
 refine refParse_any s w _ (startS_good _) ?_
 refine (refOpen_any s _ hs (glob_alloc hg _)).mono ?_
 rintro e w' ⟨b,vt,rfl,h1,h2,h3⟩
 have e1:(w.alloc (.cells #[.string ⟨#[]⟩,.slice none 0 0,.slice none 0 0] 29)).heap.size=w.heap.size+1:=by simp
 rw[e1] at h1 h3
 exact⟨b,vt,rfl,h1,h2,h3⟩
theorem refBatch_line (s:ByteArray) (w:World) (hs:s.size<=281474976710656) (hg:Glob w) :
 Calls Tryz.prog 58 #[.string s] w (BPost w (parseB s.data.toList)):=by
 have h:=refBatch_any s w _ (startS_good _) (refOpen_any s w hs hg)
 unfold startS at h
 unfold parseB
 by_cases he:(lexR s.data.toList).e=0
 ·rw[if_pos he]
  rw[if_pos he,refB_ok (lex_ended he).1] at h
  exact h
 ·rw[if_neg he]
  rw[if_neg he,refB_bad] at h
  exact h
theorem kind_idx {t:Tok} {k:Nat} (h:kindC t=(k:Int)+1):t.k=1/\idxI wordsC t.x=k:=by
 unfold kindC at h
 split at h
 ·rename_i hh
  refine⟨hh.1,?_⟩
  unfold idxI
  rw[if_pos hh.2]
  omega
 ·omega
theorem ref25_any (s:ByteArray) (w:World) (hs:s.size<=281474976710656) (hg:Glob w) :
 Calls Tryz.prog 14 #[.string s] w (CmdPost w (cmdT s.data.toList)):=by
 have hsl:s.data.toList.length=s.size:=rfl
 by_cases he:(lexR s.data.toList).e=0
 ·have hen:=(lex_ended he).1
  obtain⟨t,c,hts⟩:=hen.some
  have hst:startS (lexR s.data.toList)=.ok (t::c):=by
   unfold startS
   rw[if_pos he,hts]
  have hr:=kindC_range t
  by_cases h0:kindC t=0
  ·have e:cmdT s.data.toList=.bad t.p 250:=by
    unfold cmdT parseC
    rw[if_neg (by simp [he]),hts]
    exact if_pos h0
   rw[e]
   exact ref25_none s w hs hg t c hst h0
  ·obtain⟨k,hk⟩:∃ k:Nat,kindC t=(k:Int)+1:=⟨(kindC t - 1).toNat,by omega⟩
   have hk18:k<18:=by omega
   obtain⟨hk1,hix⟩:=kind_idx hk
   obtain⟨b1,b2,b3⟩:=tile_head he hts (by rw[hk1];decide)
   have hxs:(⟨t.x.toArray⟩:ByteArray).size=t.x.length:=by simp [ByteArray.size]
   have h1p:t.p+(⟨t.x.toArray⟩:ByteArray).size<=281474976710656:=by rw[hxs];omega
   obtain⟨fr,hfr⟩:∃ fr,fr=t.p.toNat+t.x.length:=⟨_,rfl⟩
   have hfr1:(fr:Int)=t.p+(⟨t.x.toArray⟩:ByteArray).size:=by rw[hxs];omega
   have hfr2:(fr:Int)=t.p+t.x.length:=by omega
   have hfs:fr<=s.size:=by omega
   obtain⟨x1,x2⟩:=extract_all s fr hfs
   have sS:=pS_sure (s.data.toList.drop fr)
   have sQ:=pQ_sure (s.data.toList.drop fr)
   have sB:=parseB_sure (s.data.toList.drop fr)
   have plS:PlaceOk (pS (s.data.toList.drop fr)):=fun a e q=>by
    rw[q] at sS
    simp only[List.length_drop] at sS
    exact⟨sS.1,by omega⟩
   have plQ:PlaceOk (pQ (s.data.toList.drop fr)):=fun a e q=>by
    rw[q] at sQ
    simp only[List.length_drop] at sQ
    exact⟨sQ.1,by omega⟩
   have plB:PlaceOk (parseB (s.data.toList.drop fr)):=fun a e q=>by
    rw[q] at sB
    simp only[List.length_drop] at sB
    exact⟨sB.1,by omega⟩
   have nS:∀ a e,pS (s.data.toList.drop fr)=.bad a e->e≠0:=fun a e q=>by rw[q] at sS;exact sS.2.2
   have nQ:∀ a e,pQ (s.data.toList.drop fr)=.bad a e->e≠0:=fun a e q=>by rw[q] at sQ;exact sQ.2.2
   have nB:∀ a e,parseB (s.data.toList.drop fr)=.bad a e->e≠0:=fun a e q=>by rw[q] at sB;exact sB.2.2
   have cS:=fun W (hW:Below w.heap.size w W)=>refSch_line (s.extract fr s.size) W (by omega) (hg.below hW)
   have cQ:=fun W (hW:Below w.heap.size w W)=>refParse_line (s.extract fr s.size) W (by omega) (hg.below hW)
   have cB:=fun W (hW:Below w.heap.size w W)=>refBatch_line (s.extract fr s.size) W (by omega) (hg.below hW)
   rw[x1] at cS cQ cB
   have hcm:cmdT s.data.toList=if (k:Int)+1=1 then innerP (fr:Int) ⟨[],[]⟩ (pS (s.data.toList.drop fr)) fun x => { cmd0 with kind:=1,rel:=x }
    else if (k:Int)+1=2∨(k:Int)+1=14∨(k:Int)+1=15 then innerP (fr:Int) ⟨[],[],[]⟩ (pQ (s.data.toList.drop fr)) fun x => { cmd0 with kind:=(k:Int)+1,q:=x }
    else if (k:Int)+1=4 then innerP (fr:Int) [] (parseB (s.data.toList.drop fr)) fun x => { cmd0 with kind:=4,b:=x }
    else endC (fieldsP ((k:Int)+1) c):=by
    unfold cmdT parseC
    rw[if_neg (by simp [he]),hts]
    simp only[hk]
    rw[if_neg (by omega),<-hfr2,<-hfr]
   have hks:k=0∨k=1∨k=2∨k=3∨k=4∨k=5∨k=6∨k=7∨k=8∨k=9∨k=10∨k=11∨k=12∨k=13∨k=14∨k=15∨k=16∨k=17:=by omega
   rcases hks with rfl | rfl | rfl | rfl | rfl | rfl | rfl | rfl | rfl | rfl | rfl | rfl | rfl | rfl | rfl | rfl | rfl | rfl
   ·rw[hcm,if_pos (by decide)]
    exact ref25_S s w hs hg t c hst 0 hk18 hk1 hix b1 h1p ⟨#[100]⟩ rfl (by decide +kernel) fr hfr1 hfs _ plS nS cS
   ·rw[hcm,if_neg (by decide),if_pos (by decide)]
    exact ref25_Q s w hs hg t c hst 1 hk18 hk1 hix b1 h1p ⟨#[113]⟩ rfl (by decide +kernel) (by decide +kernel) fr hfr1 hfs _ plQ nQ cQ
   ·rw[hcm,if_neg (by decide),if_neg (by decide),if_neg (by decide)]
    exact ref25_fields s w hs hg t c hst 2 hk18 hk1 hix b1 h1p ⟨#[110]⟩ rfl (by decide +kernel) (by decide +kernel) (by decide +kernel) _ fun W b vt hl hg=>fld_n W b vt c _ hl hg _ rfl
   ·rw[hcm,if_neg (by decide),if_neg (by decide),if_pos (by decide)]
    exact ref25_B s w hs hg t c hst 3 hk18 hk1 hix b1 h1p ⟨#[98]⟩ rfl (by decide +kernel) (by decide +kernel) (by decide +kernel) fr hfr1 hfs _ plB nB cB
   ·rw[hcm,if_neg (by decide),if_neg (by decide),if_neg (by decide)]
    exact ref25_fields s w hs hg t c hst 4 hk18 hk1 hix b1 h1p ⟨#[110]⟩ rfl (by decide +kernel) (by decide +kernel) (by decide +kernel) _ fun W b vt hl hg=>fld_n W b vt c _ hl hg _ rfl
   ·rw[hcm,if_neg (by decide),if_neg (by decide),if_neg (by decide)]
    exact ref25_fields s w hs hg t c hst 5 hk18 hk1 hix b1 h1p ⟨#[110]⟩ rfl (by decide +kernel) (by decide +kernel) (by decide +kernel) _ fun W b vt hl hg=>fld_n W b vt c _ hl hg _ rfl
   ·rw[hcm,if_neg (by decide),if_neg (by decide),if_neg (by decide)]
    exact ref25_fields s w hs hg t c hst 6 hk18 hk1 hix b1 h1p ⟨#[105,107]⟩ rfl (by decide +kernel) (by decide +kernel) (by decide +kernel) _ fun W b vt hl hg=>fld_ik W b vt c _ hl hg _ rfl
   ·rw[hcm,if_neg (by decide),if_neg (by decide),if_neg (by decide)]
    exact ref25_fields s w hs hg t c hst 7 hk18 hk1 hix b1 h1p ⟨#[105]⟩ rfl (by decide +kernel) (by decide +kernel) (by decide +kernel) _ fun W b vt hl hg=>fld_i W b vt c _ hl hg _ rfl
   ·rw[hcm,if_neg (by decide),if_neg (by decide),if_neg (by decide)]
    exact ref25_fields s w hs hg t c hst 8 hk18 hk1 hix b1 h1p ⟨#[105]⟩ rfl (by decide +kernel) (by decide +kernel) (by decide +kernel) _ fun W b vt hl hg=>fld_i W b vt c _ hl hg _ rfl
   ·rw[hcm,if_neg (by decide),if_neg (by decide),if_neg (by decide)]
    exact ref25_fields s w hs hg t c hst 9 hk18 hk1 hix b1 h1p ⟨#[110]⟩ rfl (by decide +kernel) (by decide +kernel) (by decide +kernel) _ fun W b vt hl hg=>fld_n W b vt c _ hl hg _ rfl
   ·rw[hcm,if_neg (by decide),if_neg (by decide),if_neg (by decide)]
    exact ref25_fields s w hs hg t c hst 10 hk18 hk1 hix b1 h1p ⟨#[110,107]⟩ rfl (by decide +kernel) (by decide +kernel) (by decide +kernel) _ fun W b vt hl hg=>fld_nk W b vt c _ hl hg _ rfl
   ·rw[hcm,if_neg (by decide),if_neg (by decide),if_neg (by decide)]
    exact ref25_fields s w hs hg t c hst 11 hk18 hk1 hix b1 h1p ⟨#[110,114]⟩ rfl (by decide +kernel) (by decide +kernel) (by decide +kernel) _ fun W b vt hl hg=>fld_nr W b vt c _ hl hg _ rfl
   ·rw[hcm,if_neg (by decide),if_neg (by decide),if_neg (by decide)]
    exact ref25_fields s w hs hg t c hst 12 hk18 hk1 hix b1 h1p ⟨#[110]⟩ rfl (by decide +kernel) (by decide +kernel) (by decide +kernel) _ fun W b vt hl hg=>fld_n W b vt c _ hl hg _ rfl
   ·rw[hcm,if_neg (by decide),if_pos (by decide)]
    exact ref25_Q s w hs hg t c hst 13 hk18 hk1 hix b1 h1p ⟨#[113]⟩ rfl (by decide +kernel) (by decide +kernel) fr hfr1 hfs _ plQ nQ cQ
   ·rw[hcm,if_neg (by decide),if_pos (by decide)]
    exact ref25_Q s w hs hg t c hst 14 hk18 hk1 hix b1 h1p ⟨#[113]⟩ rfl (by decide +kernel) (by decide +kernel) fr hfr1 hfs _ plQ nQ cQ
   ·rw[hcm,if_neg (by decide),if_neg (by decide),if_neg (by decide)]
    exact ref25_fields s w hs hg t c hst 15 hk18 hk1 hix b1 h1p ⟨#[]⟩ rfl (by decide +kernel) (by decide +kernel) (by decide +kernel) _ fun W b vt hl hg=>fld_0 W b vt c _ hl hg _ rfl
   ·rw[hcm,if_neg (by decide),if_neg (by decide),if_neg (by decide)]
    exact ref25_fields s w hs hg t c hst 16 hk18 hk1 hix b1 h1p ⟨#[]⟩ rfl (by decide +kernel) (by decide +kernel) (by decide +kernel) _ fun W b vt hl hg=>fld_0 W b vt c _ hl hg _ rfl
   ·rw[hcm,if_neg (by decide),if_neg (by decide),if_neg (by decide)]
    exact ref25_fields s w hs hg t c hst 17 hk18 hk1 hix b1 h1p ⟨#[]⟩ rfl (by decide +kernel) (by decide +kernel) (by decide +kernel) _ fun W b vt hl hg=>fld_0 W b vt c _ hl hg _ rfl
 ·have e:cmdT s.data.toList=.bad (lexR s.data.toList).at_ (lexR s.data.toList).e:=by
   unfold cmdT parseC
   exact if_pos he
  rw[e]
  exact ref25_bad s w hs hg _ _ (by unfold startS;rw[if_neg he])
end Go.Proofs.YtamjadghncnbcaaGreatDoor
