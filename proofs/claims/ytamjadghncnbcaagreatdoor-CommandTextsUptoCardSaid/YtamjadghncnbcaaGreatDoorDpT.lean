/- osierref09.Texts, Copy, walked. change.Parse's closure: one change, read. -/
import Derived.Test.YtamjadghncnbcaaGreatDoorGmT
import Derived.Test.YtamjadghncnbcaaGreatDoorBaT
import Derived.Deep.Cut
import Derived.Deep.CutRange
import Derived.RegionDies
import Derived.Deep.RegionLaw
namespace Go.Proofs.YtamjadghncnbcaaGreatDoor
open Go.RowKit
set_option linter.unusedVariables false
theorem strC_len (l:List (List UInt8)):∀ x∈l.map strC,x.length=1:=by
 intro x hx
 simp at hx
 obtain⟨t,_,rfl⟩:=hx
 rfl
theorem strC_one (l:List (List UInt8)):∀ x∈l.map strC,∀ u∈x,u.oneCell'=true:=by
 intro x hx u hu
 simp at hx
 obtain⟨t,_,rfl⟩:=hx
 simp only[strC,List.mem_cons,List.not_mem_nil,or_false] at hu
 subst hu
 rfl
set_option maxHeartbeats 2000000 in
set_option maxRecDepth 100000 in
theorem textsC_any (w:World) (v:Value) (l:List (List UInt8)) (h:StrsAt w v l) :
 Calls Tryz.prog 164 #[v] w fun e w'=>∃ v',e=.returned v'/\OwnS w.heap.size w' v' l/\Below w.heap.size w w':=by
 obtain⟨i0,hi0,hz0,hz1,hz2⟩:=info_parts Tryz.infoStr
 obtain⟨ad,cap,rfl,hnc,hcm⟩:=h.form
 have hln:=h.len
 unfold maxLen at hcm
 have HR:Hid (RowAt w (.slice ad l.length cap) 1 (l.map strC)):=Lib.hid h
 have HL:=Lib.hid (strC_len l)
 have HO:=Lib.hid (strC_one l)
 have hlen:(l.map strC).length=l.length:=by simp
 have hfl:=strC_flat l
 have hos:∀ (w':World) (v':Value),w'.ownsRow w.heap.size 9 1 v' l.length (l.map strC).flatten->OwnS w.heap.size w' v' l:=fun w' v' hh=>by
  unfold OwnS
  rw[<-strC_flat]
  exact hh
 generalize l.map strC=xs at *
 generalize hN:l.length=n at *
 have HX:=Lib.hid hlen
 have HOS:=Lib.hid hos
 clear h hN hlen hfl hos
 go_enter Tryz.func164,Tryz.ntmps164
 go_wp2_with (at_make;refine wpList_make_full _ rfl _ _ 26 rfl w.heap.size 9 i0 (.string ⟨#[]⟩) 1 Tryz.underlying26 hi0 hz0 hz1 _ _ _ _ n rfl rfl rfl rfl ?b2 ?b3 ?b4 ?_)
 case b2=>rw[hz2];omega
 case b3=>unfold maxLen;omega
 case b4=>omega
 intro w2 hown2 hgrow2
 have hbw2:Below w.heap.size w w2:=(Below.refl _ w).grown hgrow2 (Nat.le_refl _) (fun q hq=>by cases hq)
 have HOW2:=Lib.hid hown2
 have HBW2:=Lib.hid hbw2
 have HR2:=Lib.hid (HR.out.keep hbw2)
 clear hbw2 hown2 hgrow2
 go_wp2_with (refine wpList_copy_full rfl _ _ _ _ rfl 9 1 Tryz.underlying26 (by kernel_rfl) w.heap.size n _ rfl rfl _ w.heap.size HOW2.out xs HR2.out HX.out HL.out HO.out (Nat.le_refl _) ?_)
 intro w3 hown3 hmod3 hsz3
 have HOW3:=Lib.hid (HOS.out _ _ hown3)
 have HBW3:=Lib.hid (Mod.own HBW2.out hmod3 (Nat.le_refl _))
 clear hown3 hmod3 hsz3
 go_wp2_with fail
 go_ret
 exact⟨_,rfl,HOW3.out,HBW3.out⟩
theorem set3_facts {w1:World} {y:Nat} {tq:TypeId} {a b c a' b' c':Value} (hz:Blk w1 y tq #[a',b',c']) :
 Blk (((w1.setCell ⟨y,0,none⟩ a).setCell ⟨y,1,none⟩ b).setCell ⟨y,2,none⟩ c) y tq #[a,b,c]/\MT 0 [tq] w1 (((w1.setCell ⟨y,0,none⟩ a).setCell ⟨y,1,none⟩ b).setCell ⟨y,2,none⟩ c) /\
 (∀ (g:Nat) (t:TypeId) (cs:Array Value),g≠y->Blk w1 g t cs->Blk (((w1.setCell ⟨y,0,none⟩ a).setCell ⟨y,1,none⟩ b).setCell ⟨y,2,none⟩ c) g t cs) /\
 ∀ (B:Nat) (w0:World),B<=y->Below B w0 w1->Below B w0 (((w1.setCell ⟨y,0,none⟩ a).setCell ⟨y,1,none⟩ b).setCell ⟨y,2,none⟩ c):=by
 have z1:=hz.set_ 0 a
 have z2:=z1.set_ 1 b
 have z3:=z2.set_ 2 c
 refine⟨by simpa using z3,?_,fun g t cs hg hb=>((hb.far hg _).far hg _).far hg _,fun B w0 hB hb=>((hb.setCell (p:=⟨y,0,none⟩) hB _).setCell (p:=⟨y,1,none⟩) hB _).setCell (p:=⟨y,2,none⟩) hB _⟩
 exact MT.setCell (MT.setCell (MT.setCell (MT.refl w1) hz (by simp) (Nat.zero_le _) a) z1 (by simp) (Nat.zero_le _) b) z2 (by simp) (Nat.zero_le _) c
theorem atomsRowG {B:Nat} {w:World} {v:Value} {n:Nat} {rows:List (List Value)} {al:List Atm} (h:w.ownsRow B 67 2 v n rows.flatten) (hn:n=al.length) (h2:All2 (AtmO B w) rows al) (hl:al.length<=8796093022208) (ht:∀ a∈al,a.ts.length<=2932031007317):AtomsAt w v al:=by
 have hll:=h2.length
 refine⟨rows,RowAt.ofOwn h (by omega) ?_ (by omega),all2_and h2 fun c x hx hr=>?_⟩
 ·intro c hc
  obtain⟨x,_,tv,rfl,_⟩:=all2_mem h2 c hc
  rfl
 ·obtain⟨tv,rfl,ho⟩:=hr
  rw[<-map_flat] at ho
  refine⟨tv,rfl,RowAt.ofOwn ho (by simp) (trm_len _) (by have:=ht x hx;simp;omega),ht x hx⟩
theorem AtomsAt.small {w:World} {v:Value} {al:List Atm} (h:AtomsAt w v al):∀ a∈al,a.ts.length<=2932031007317:=by
 intro a ha
 obtain⟨i,hi⟩:=List.getElem?_of_mem ha
 obtain⟨_,_,_,_,_,_,_,_,_,_,_,h9⟩:=h.get hi
 exact h9
theorem Tryz.infoChg:(Tryz.prog.info? 51).map (fun i=>(i.zero,i.size,i.bytes))=some (some (.agg #[.bool false,.string ⟨#[]⟩,.slice none 0 0]),3,48):=by kernel_rfl
def JB (B n b r ov:Nat) (w:World) (bv:Value) (xs:List ChP):Prop :=
 InB w b r/\Blk w ov 3 #[.int .i64 (overP xs)]/\Blk w n 30 #[bv]/\ChgsOwn B w bv (xs.map (·.1))
end Go.Proofs.YtamjadghncnbcaaGreatDoor
