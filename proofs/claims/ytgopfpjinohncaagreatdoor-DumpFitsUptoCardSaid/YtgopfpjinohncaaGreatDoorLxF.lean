/- lex.literal, walked. -/
import Derived.Test.YtgopfpjinohncaaGreatDoorLcF
import Derived.Test.YtgopfpjinohncaaGreatDoorGbF
import Derived.Lib.Join
set_option maxHeartbeats 16000000
set_option maxRecDepth 100000
set_option linter.unusedVariables false
namespace Go.Proofs.YtgopfpjinohncaaGreatDoor
open Go.Proofs.Tryz
open Go.RowKit
theorem wN (l:List UInt8) (i:Nat) (hi:i<=l.length):aD l i=⟨(aD (l.drop i) 0).k,(aD (l.drop i) 0).n,(aD (l.drop i) 0).t,if (aD (l.drop i) 0).e=0 then i+(aD (l.drop i) 0).stop else 0,(aD (l.drop i) 0).e⟩:=by
 have h:=uM (l.take i) (l.drop i)
 rw[List.take_append_drop,List.length_take,Nat.min_eq_left hi] at h
 exact h
theorem sM (s:ByteArray) (i:Nat) (w:World) (hi:i<s.size) (hs:s.size<=140737488355328) (hg:bY w) (he:(aD (s.data.toList.drop i) 0).e≠0) :
 Calls prog 233 #[.string s,.int .i64 i] w fun e w'=>e=.returned (.tuple #[(ey (s.data.toList.drop i) i).1.v,.int .i64 (ey (s.data.toList.drop i) i).2])/\Below w.heap.size w w':=by
 have hE:ey (s.data.toList.drop i) i=(fY,(aD (s.data.toList.drop i) 0).e):=by unfold ey;rw[if_neg he]
 have hsc:=fun W (hG:bY W)=>rS s i W hs hG
 rw[wN _ i (by have:s.data.toList.length=s.size:=rfl;omega)] at hsc
 have HB0:=Fx (show Below w.heap.size w (w.alloc (.cells #[.int .i64 0,.string ⟨#[]⟩,.int .i64 0,.int .i64 0,.string ⟨#[]⟩,.int .i64 0] 122)) from ae Fy _)
 generalize aD (s.data.toList.drop i) 0=r at *
 obtain⟨k,n,t,st,e0⟩:=r
 simp only at he hE
 simp only[xI.v,if_neg he] at hsc
 have HE:=Fx hE
 have HSC:=Fx hsc
 have HG:=Fx hg
 have q:(e0 != 0)=true:=by simpa using he
 clear hE hsc hg he
 go_enter func233,ntmps233
 go_wp2_with fail
 refine (HSC.out _ (HG.out.below HB0.out)).mono ?_
 rintro e w1 ⟨rfl,hb1⟩
 have hblk1:=(af.new w 122 #[.int .i64 0,.string ⟨#[]⟩,.int .i64 0,.int .i64 0,.string ⟨#[]⟩,.int .i64 0]).below hb1 (by simp)
 have hlt1:=hblk1.lt
 have hb1':=HB0.out.trans (hb1.mono (by simp))
 have HBLK:=Fx hblk1
 clear hblk1 hb1
 go_wp2_with (refine ar rfl 122 _ _ rfl w.heap.size 122 _ _ rfl rfl (HBLK.out.alloc _) (by kernel_rfl) rfl (by simp [Value.oneCell']) ?_)
 intro w2 hb2 hm2 hz2
 have hB2:=aq.own (ae hb1' _) hm2 FA
 have r0:=hb2.cell 0
 have r1:=hb2.cell 1
 have r2:=hb2.cell 2
 have r3:=hb2.cell 3
 have r4:=hb2.cell 4
 have r5:=hb2.cell 5
 have HB2:=Fx hB2
 clear hb2 hm2 hz2 hB2 hb1' hlt1
 simp only[FF] at r0 r1 r2 r3 r4 r5
 go_wp2_with fail
 refine bodyPost_ret (v:=.tuple #[fY.v,.int .i64 e0]) (by simp [results,results233,go_sem, *];rfl) rfl ⟨by rw[HE.out],HB2.out⟩
theorem re (s:ByteArray) (i:Nat) (w:World) (hi:i<s.size) (hs:s.size<=140737488355328) (hg:bY w) (he:(aD (s.data.toList.drop i) 0).e=0) :
 Calls prog 233 #[.string s,.int .i64 i] w fun e w'=>e=.returned (.tuple #[(ey (s.data.toList.drop i) i).1.v,.int .i64 (ey (s.data.toList.drop i) i).2])/\Below w.heap.size w w':=by
 have hne:s.data.toList.drop i≠[]:=eR hi
 have hll:=ry (r:=s.data.toList.drop i) (p:=i) (by unfold ey;rw[if_pos he]) hne
 have hE:ey (s.data.toList.drop i) i=(⟨2,(s.data.toList.drop i).take (aD (s.data.toList.drop i) 0).stop.toNat,(aD (s.data.toList.drop i) 0).k,(aD (s.data.toList.drop i) 0).n,(aD (s.data.toList.drop i) 0).t,i⟩,0):=by unfold ey;rw[if_pos he]
 have hsc:=fun W (hG:bY W)=>rS s i W hs hG
 rw[wN _ i (by have:s.data.toList.length=s.size:=rfl;omega)] at hsc
 have HB0:=Fx (show Below w.heap.size w (w.alloc (.cells #[.int .i64 0,.string ⟨#[]⟩,.int .i64 0,.int .i64 0,.string ⟨#[]⟩,.int .i64 0] 122)) from ae Fy _)
 obtain⟨_,h1,h2⟩:=hll
 rw[List.length_drop] at h2
 have hsl:s.data.toList.length=s.size:=rfl
 rw[hsl] at h2
 generalize aD (s.data.toList.drop i) 0=r at *
 obtain⟨k,n,t,st,e0⟩:=r
 simp only at he h1 h2
 subst he
 obtain⟨m,rfl⟩:=Int.eq_ofNat_of_zero_le (show 0<=st by omega)
 simp only[xI.v,if_true,Int.toNat_natCast] at hsc hE h1 h2
 have hcast:(i:Int)+(m:Int)=((i+m:Nat):Int):=by omega
 rw[hcast] at hsc
 have hx:(s.extract i (i+m)).data.toList=(s.data.toList.drop i).take m:=by simp
 rw[<-hx] at hE
 have him:i+m<=s.size:=by omega
 have HE:=Fx hE
 have HSC:=Fx hsc
 have HG:=Fx hg
 clear hE hsc hg h1 h2 hx hne hsl hcast
 go_enter func233,ntmps233
 go_wp2_with fail
 refine (HSC.out _ (HG.out.below HB0.out)).mono ?_
 rintro e w1 ⟨rfl,hb1⟩
 have hblk1:=(af.new w 122 #[.int .i64 0,.string ⟨#[]⟩,.int .i64 0,.int .i64 0,.string ⟨#[]⟩,.int .i64 0]).below hb1 (by simp)
 have hlt1:=hblk1.lt
 have hb1':=HB0.out.trans (hb1.mono (by simp))
 have HBLK:=Fx hblk1
 clear hblk1 hb1
 go_wp2_with fail
 refine wp_region_any (by kernel_rfl) ?_
 try (change wpAny _ _ _ _ _ _ _ (World.drew _))
 have hle:(i:Int)+(m:Int)<=s.size:=by omega
 have hle2:(i:Int)<=(i:Int)+(m:Int):=by omega
 refine wpAny_take (i:=0) (v:=?_) rfl (by kernel_rfl) (by kernel_rfl) (by kernel_rfl) (fun _ _ _ h=>h) (Or.inl ⟨by rfl,?_⟩) ?_
 rotate_left
 ·intro w
  go_simp
  with_reducible rfl
 refine wpAny_take (i:=1) (v:=?_) rfl (by kernel_rfl) (by kernel_rfl) (by kernel_rfl) (fun _ _ _ h=>h) (Or.inl ⟨by rfl,?_⟩) ?_
 rotate_left
 ·intro w
  go_simp
  with_reducible rfl
 refine wpAny_take (i:=2) (v:=?_) rfl (by kernel_rfl) (by kernel_rfl) (by kernel_rfl) (fun _ _ _ h=>h) (Or.inl ⟨by rfl,?_⟩) ?_
 rotate_left
 ·intro w
  go_simp
  with_reducible rfl
 refine wpAny_take (i:=5) (v:=?_) rfl (by kernel_rfl) (by kernel_rfl) (by kernel_rfl) (fun _ _ _ h=>h) (Or.inl ⟨by rfl,?_⟩) ?_
 rotate_left
 ·intro w
  go_simp
  with_reducible rfl
 refine wpAny_take (i:=3) (v:=?_) rfl (by kernel_rfl) (by kernel_rfl) (by kernel_rfl) (fun _ _ _ h=>h) (Or.inl ⟨by rfl,?_⟩) ?_
 rotate_left
 ·intro w
  go_simp
  with_reducible rfl
 refine wpAny_ready (rs:=[4]) (by kernel_rfl) (by simp) ?_
 refine AllReady.cons rfl (fun K hK=>?_) AllReady.nil
 go_simp
 refine hK _ _ ?_
 clear hK K
 refine wpAny_take (i:=6) (v:=?_) rfl (by kernel_rfl) (by kernel_rfl) (by kernel_rfl) (fun _ _ _ h=>h) (Or.inl ⟨by rfl,?_⟩) ?_
 rotate_left
 ·intro w
  go_simp
  with_reducible rfl
 refine wpAny_ready (rs:=[7]) (by kernel_rfl) (by simp) ?_
 refine AllReady.cons rfl (fun K hK=>?_) AllReady.nil
 refine dM rfl 122 _ _ rfl w.heap.size 122 _ _ rfl rfl ((HBLK.out.alloc _).drew) (by kernel_rfl) rfl (by simp [Value.oneCell']) ?_
 intro w2 hb2 hm2 hz2
 have hB2:=aq.own (ay (ae hb1' _)) hm2 FA
 have htn:((i:Int)+(m:Int)).toNat=i+m:=by omega
 rw[htn] at hb2
 have r0:=hb2.cell 0
 have r1:=hb2.cell 1
 have r2:=hb2.cell 2
 have r3:=hb2.cell 3
 have r4:=hb2.cell 4
 have r5:=hb2.cell 5
 have HB2:=Fx hB2
 clear hb2 hm2 hz2 hB2 hb1' hlt1
 simp only[FF] at r0 r1 r2 r3 r4 r5
 go_simp
 refine hK _ _ ?_
 clear hK K
 refine wpAny_take (i:=8) (v:=?_) rfl (by kernel_rfl) (by kernel_rfl) (by kernel_rfl) (fun _ _ _ h=>h) (Or.inl ⟨by rfl,?_⟩) ?_
 rotate_left
 ·intro w
  go_simp
  with_reducible rfl
 refine wpAny_done (by kernel_rfl) ?_ _
 go_wp2_with fail
 refine bodyPost_ret (v:=.tuple #[.agg #[.int .i64 2,.string (s.extract i (i+m)),.int .i64 k,.int .i64 n,.string ⟨t.toArray⟩,.int .i64 i],.int .i64 0]) (by simp [results,results233,go_sem, *]) rfl ⟨by rw[HE.out];rfl,HB2.out⟩
theorem lP (s:ByteArray) (i:Nat) (w:World) (hi:i<s.size) (hs:s.size<=140737488355328) (hg:bY w) :
 Calls prog 233 #[.string s,.int .i64 i] w fun e w'=>e=.returned (.tuple #[(ey (s.data.toList.drop i) i).1.v,.int .i64 (ey (s.data.toList.drop i) i).2])/\Below w.heap.size w w':=by
 by_cases he:(aD (s.data.toList.drop i) 0).e=0
 ·exact re s i w hi hs hg he
 ·exact sM s i w hi hs hg he
theorem gU (l:List UInt8) (i:Nat):bt (l.drop i) 0=bt l i:=by rw[eK];rfl
theorem l9 (l:List UInt8) (i:Nat):bt (l.drop i) 1=bt l (i+1):=by rw[eK]
theorem wY {l:List UInt8} {k:Nat} (h:l.length<=k):bt l k=0:=by
 unfold bt
 rw[List.getD_eq_getElem?_getD,List.getElem?_eq_none h]
 rfl
theorem gI (s:ByteArray) (i m:Nat):(s.data.toList.drop i).take m=(s.extract i (i+m)).data.toList:=by simp
def d6 (s:ByteArray) (i:Nat) (w:World):Prop :=
 Calls prog 179 #[.string s,.int .i64 i] w fun e w'=>e=.returned (.tuple #[(aA (s.data.toList.drop i) i).1.v,.int .i64 (aA (s.data.toList.drop i) i).2])/\Below w.heap.size w w'
theorem Aa (s:ByteArray) (i:Nat) (w:World) (hi:i<s.size) (hs:s.size<=140737488355328) (hg:bY w)
 (hc:bt s.data.toList i=40∨bt s.data.toList i=41∨bt s.data.toList i=44∨bt s.data.toList i=43):d6 s i w:=by
 unfold d6
 have hE:aA (s.data.toList.drop i) i=(⟨3,(s.extract i (i+1)).data.toList,0,0,[],i⟩,0):=by
  unfold aA
  rw[gU,l9,if_neg (by omega),if_neg (by
   have:au (bt s.data.toList i)=false:=by rcases hc with h | h | h | h<;>rw[h]<;>rfl
   rw[this];simp;omega),if_pos (.inr hc),gI]
 have hbt:=bJ s i hi
 have hbt1:∀ h:i+1<s.size,((s[i+1]'h).toNat:Int)=bt s.data.toList (i+1):=bJ s (i+1)
 have HB0:=Fx (show Below w.heap.size w (w.alloc (.cells #[.int .i64 3,.string (s.extract i (i+1)),.int .i64 0,.int .i64 0,.string ⟨#[]⟩,.int .i64 i] 122)) from ae Fy _)
 have hsl:s.data.toList.length=s.size:=rfl
 have hle:(i:Int)+1<=s.size:=by omega
 have HE:=Fx hE
 clear hE hg
 generalize hL:s.data.toList=l at *
 have HL:=Fx hL
 have HSL:=Fx hsl
 clear hL hsl
 by_cases h1:i+1<s.size
 all_goals
  have h1':=h1
  rcases hc with h | h | h | h
 all_goals
  rw[h] at hbt
  clear h
  go_enter func179,ntmps179
  go_wp2_with fail
  refine bodyPost_ret (v:=.tuple #[.agg #[.int .i64 3,.string (s.extract i (i+1)),.int .i64 0,.int .i64 0,.string ⟨#[]⟩,.int .i64 i],.int .i64 0]) (by simp [results,results179,go_sem, *]) rfl ⟨by rw[HE.out];rfl,HB0.out⟩
theorem rd (s:ByteArray) (i:Nat) (w:World) (hi:i<s.size) (hs:s.size<=140737488355328)
 (hc:bt s.data.toList i=58) (hn:bt s.data.toList (i+1)=45):d6 s i w:=by
 unfold d6
 have hE:aA (s.data.toList.drop i) i=(⟨3,[58,45],0,0,[],i⟩,0):=by
  unfold aA
  rw[gU,l9,if_pos hc,if_pos hn]
 have h1:i+1<s.size:=by
  rcases Nat.lt_or_ge (i+1) s.size with h | h
  ·exact h
  ·rw[wY (show s.data.toList.length<=i+1 from h)] at hn;omega
 have hbt:=bJ s i hi
 have hbt1:=bJ s (i+1) h1
 rw[hc] at hbt
 rw[hn] at hbt1
 have HB0:=Fx (show Below w.heap.size w (w.alloc (.cells #[.int .i64 3,.string ⟨#[58,45]⟩,.int .i64 0,.int .i64 0,.string ⟨#[]⟩,.int .i64 i] 122)) from ae Fy _)
 have HE:=Fx hE
 clear hE hc hn
 go_enter func179,ntmps179
 go_wp2_with fail
 refine bodyPost_ret (v:=.tuple #[.agg #[.int .i64 3,.string ⟨#[58,45]⟩,.int .i64 0,.int .i64 0,.string ⟨#[]⟩,.int .i64 i],.int .i64 0]) (by simp [results,results179,go_sem, *]) rfl ⟨by rw[HE.out];rfl,HB0.out⟩
theorem oK (s:ByteArray) (i:Nat) (w:World) (hi:i<s.size) (hs:s.size<=140737488355328)
 (hc:bt s.data.toList i=58) (hn:bt s.data.toList (i+1)≠45):d6 s i w:=by
 unfold d6
 have hE:aA (s.data.toList.drop i) i=(fY,71):=by
  unfold aA
  rw[gU,l9,if_pos hc,if_neg hn]
 have hbt:=bJ s i hi
 rw[hc] at hbt
 have HB0:=Fx (show Below w.heap.size w (w.alloc (.cells #[.int .i64 0,.string ⟨#[]⟩,.int .i64 0,.int .i64 0,.string ⟨#[]⟩,.int .i64 0] 122)) from ae Fy _)
 have HE:=Fx hE
 have q:(bt s.data.toList (i+1) != 45)=true:=by simpa using hn
 have hbt1:∀ h:i+1<s.size,((s[i+1]'h).toNat:Int)=bt s.data.toList (i+1):=bJ s (i+1)
 clear hE hc hn
 generalize bt s.data.toList (i+1)=nx at *
 by_cases h1:i+1<s.size
 all_goals
  go_enter func179,ntmps179
  go_wp2_with fail
  refine bodyPost_ret (v:=.tuple #[.agg #[.int .i64 0,.string ⟨#[]⟩,.int .i64 0,.int .i64 0,.string ⟨#[]⟩,.int .i64 0],.int .i64 71]) (by simp [results,results179,go_sem, *]) rfl ⟨by rw[HE.out];rfl,HB0.out⟩
theorem nW (s:ByteArray) (i:Nat) (w:World) (hi:i<s.size) (hs:s.size<=140737488355328)
 (hc:bt s.data.toList i=45) (hn:au (bt s.data.toList (i+1))=false):d6 s i w:=by
 unfold d6
 have hE:aA (s.data.toList.drop i) i=(⟨3,(s.extract i (i+1)).data.toList,0,0,[],i⟩,0):=by
  unfold aA
  rw[gU,l9,if_neg (by omega),if_neg (by
   have:au (bt s.data.toList i)=false:=by rw[hc];rfl
   rw[this,hn];simp;omega),if_pos (.inl hc),gI]
 have hbt:=bJ s i hi
 rw[hc] at hbt
 have HB0:=Fx (show Below w.heap.size w (w.alloc (.cells #[.int .i64 3,.string (s.extract i (i+1)),.int .i64 0,.int .i64 0,.string ⟨#[]⟩,.int .i64 i] 122)) from ae Fy _)
 have hle:(i:Int)+1<=s.size:=by omega
 have HE:=Fx hE
 have hbt1:∀ h:i+1<s.size,((s[i+1]'h).toNat:Int)=bt s.data.toList (i+1):=bJ s (i+1)
 clear hE hc
 generalize bt s.data.toList (i+1)=nx at *
 by_cases h1:i+1<s.size
 ·have hx:=hbt1 h1
  clear hbt1
  go_enter func179,ntmps179
  go_wp2_with (go_at_call 208;refine (dL _ _).mono ?_;rintro e w' ⟨rfl,rfl⟩)
  refine bodyPost_ret (v:=.tuple #[.agg #[.int .i64 3,.string (s.extract i (i+1)),.int .i64 0,.int .i64 0,.string ⟨#[]⟩,.int .i64 i],.int .i64 0]) (by simp [results,results179,go_sem, *]) rfl ⟨by rw[HE.out];rfl,HB0.out⟩
 ·have hd0:au 0=false:=rfl
  clear hbt1
  go_enter func179,ntmps179
  go_wp2_with (go_at_call 208;refine (dL _ _).mono ?_;rintro e w' ⟨rfl,rfl⟩)
  refine bodyPost_ret (v:=.tuple #[.agg #[.int .i64 3,.string (s.extract i (i+1)),.int .i64 0,.int .i64 0,.string ⟨#[]⟩,.int .i64 i],.int .i64 0]) (by simp [results,results179,go_sem, *]) rfl ⟨by rw[HE.out];rfl,HB0.out⟩
theorem oD (s:ByteArray) (i:Nat) (w:World) (hi:i<s.size) (hs:s.size<=140737488355328) (hg:bY w)
 (hc:bt s.data.toList i=45) (hn:au (bt s.data.toList (i+1))=true):d6 s i w:=by
 unfold d6
 have hE:aA (s.data.toList.drop i) i=ey (s.data.toList.drop i) i:=by
  unfold aA
  rw[gU,l9,if_neg (by omega),if_pos (.inr (.inr ⟨hc,hn⟩))]
 have h1:i+1<s.size:=by
  rcases Nat.lt_or_ge (i+1) s.size with h | h
  ·exact h
  ·rw[wY (show s.data.toList.length<=i+1 from h)] at hn;simp [au] at hn
 have hbt:=bJ s i hi
 have hbt1:=bJ s (i+1) h1
 rw[hc] at hbt
 have HB0:=Fx (show Below w.heap.size w (w.alloc (.cells #[.int .i64 0,.string ⟨#[]⟩,.int .i64 0,.int .i64 0,.string ⟨#[]⟩,.int .i64 0] 122)) from ae Fy _)
 have HLT:=Fx (fun W (hG:bY W)=>lP s i W hi hs hG)
 rw[hE]
 have HG:=Fx hg
 clear hE hc hg
 generalize bt s.data.toList (i+1)=nx at *
 generalize ey (s.data.toList.drop i) i=r at *
 obtain⟨⟨k,x,vk,vn,vt,p⟩,e0⟩:=r
 unfold ak.v at *
 simp only at *
 go_enter func179,ntmps179
 go_wp2_with (go_at_call 208;refine (dL _ _).mono ?_;rintro e w' ⟨rfl,rfl⟩)
 refine (HLT.out _ (HG.out.below HB0.out)).mono ?_
 rintro e w1 ⟨rfl,hb1⟩
 have hblk1:=(af.new w 122 #[.int .i64 0,.string ⟨#[]⟩,.int .i64 0,.int .i64 0,.string ⟨#[]⟩,.int .i64 0]).below hb1 (by simp)
 have hb1':=HB0.out.trans (hb1.mono (by simp))
 have HBLK:=Fx hblk1
 clear hblk1 hb1
 go_wp2_with (refine ar rfl 122 _ _ rfl w.heap.size 122 _ _ rfl rfl HBLK.out (by kernel_rfl) rfl (by simp [Value.oneCell']) ?_)
 intro w2 hb2 hm2 hz2
 have hB2:=aq.own hb1' hm2 FA
 have r0:=hb2.cell 0
 have r1:=hb2.cell 1
 have r2:=hb2.cell 2
 have r3:=hb2.cell 3
 have r4:=hb2.cell 4
 have r5:=hb2.cell 5
 have HB2:=Fx hB2
 clear hb2 hm2 hz2 hB2 hb1'
 simp only[FF] at r0 r1 r2 r3 r4 r5
 go_wp2_with fail
 refine bodyPost_ret (v:=.tuple #[.agg #[.int .i64 k,.string ⟨x.toArray⟩,.int .i64 vk,.int .i64 vn,.string ⟨vt.toArray⟩,.int .i64 p],.int .i64 e0]) (by simp [results,results179,go_sem, *]) rfl ⟨rfl,HB2.out⟩
theorem xN {c:Int} (h:au c=true):c=48∨c=49∨c=50∨c=51∨c=52∨c=53∨c=54∨c=55∨c=56∨c=57:=by
 simp only[au,decide_eq_true_eq] at h
 omega
theorem CG (s:ByteArray) (i:Nat) (w:World) (hi:i<s.size) (hs:s.size<=140737488355328) (hg:bY w)
 (hc:bt s.data.toList i=34∨au (bt s.data.toList i)=true):d6 s i w:=by
 unfold d6
 have hE:aA (s.data.toList.drop i) i=ey (s.data.toList.drop i) i:=by
  unfold aA
  rw[gU,l9,if_neg (by
   intro h
   rw[h] at hc
   simp [au] at hc),if_pos (by
   rcases hc with h | h
   ·exact .inl h
   ·exact .inr (.inl h))]
 have hbt:=bJ s i hi
 have hbt1:∀ h:i+1<s.size,((s[i+1]'h).toNat:Int)=bt s.data.toList (i+1):=bJ s (i+1)
 have HB0:=Fx (show Below w.heap.size w (w.alloc (.cells #[.int .i64 0,.string ⟨#[]⟩,.int .i64 0,.int .i64 0,.string ⟨#[]⟩,.int .i64 0] 122)) from ae Fy _)
 have HLT:=Fx (fun W (hG:bY W)=>lP s i W hi hs hG)
 rw[hE]
 have HG:=Fx hg
 clear hE hg
 have hcs:bt s.data.toList i=34∨bt s.data.toList i=48∨bt s.data.toList i=49∨bt s.data.toList i=50∨bt s.data.toList i=51∨bt s.data.toList i=52∨bt s.data.toList i=53∨bt s.data.toList i=54∨bt s.data.toList i=55∨bt s.data.toList i=56∨bt s.data.toList i=57:=by
  rcases hc with h | h
  ·exact .inl h
  ·exact .inr (xN h)
 clear hc
 generalize bt s.data.toList (i+1)=nx at *
 generalize ey (s.data.toList.drop i) i=r at *
 obtain⟨⟨k,x,vk,vn,vt,p⟩,e0⟩:=r
 unfold ak.v at *
 simp only at *
 by_cases h1:i+1<s.size
 all_goals
  have h1':=h1
  rcases hcs with h | h | h | h | h | h | h | h | h | h | h
 all_goals
  rw[h] at hbt
  clear h
  go_enter func179,ntmps179
  go_wp2_with fail
  refine (HLT.out _ (HG.out.below HB0.out)).mono ?_
  rintro e w1 ⟨rfl,hb1⟩
  have hblk1:=(af.new w 122 #[.int .i64 0,.string ⟨#[]⟩,.int .i64 0,.int .i64 0,.string ⟨#[]⟩,.int .i64 0]).below hb1 (by simp)
  have hb1':=HB0.out.trans (hb1.mono (by simp))
  have HBLK:=Fx hblk1
  clear hblk1 hb1
  go_wp2_with (refine ar rfl 122 _ _ rfl w.heap.size 122 _ _ rfl rfl HBLK.out (by kernel_rfl) rfl (by simp [Value.oneCell']) ?_)
  intro w2 hb2 hm2 hz2
  have hB2:=aq.own hb1' hm2 FA
  have r0:=hb2.cell 0
  have r1:=hb2.cell 1
  have r2:=hb2.cell 2
  have r3:=hb2.cell 3
  have r4:=hb2.cell 4
  have r5:=hb2.cell 5
  have HB2:=Fx hB2
  clear hb2 hm2 hz2 hB2 hb1'
  simp only[FF] at r0 r1 r2 r3 r4 r5
  go_wp2_with fail
  refine bodyPost_ret (v:=.tuple #[.agg #[.int .i64 k,.string ⟨x.toArray⟩,.int .i64 vk,.int .i64 vn,.string ⟨vt.toArray⟩,.int .i64 p],.int .i64 e0]) (by simp [results,results179,go_sem, *]) rfl ⟨rfl,HB2.out⟩
structure Ft (c:Int):Prop where
 a0:(c == 58)=false
 a1:(c == 45)=false
 a2:(c == 40)=false
 a3:(c == 41)=false
 a4:(c == 44)=false
 a5:(c == 43)=false
 a6:(c == 34)=false
 b0:(c == 48)=false
 b1:(c == 49)=false
 b2:(c == 50)=false
 b3:(c == 51)=false
 b4:(c == 52)=false
 b5:(c == 53)=false
 b6:(c == 54)=false
 b7:(c == 55)=false
 b8:(c == 56)=false
 b9:(c == 57)=false
theorem BS {c:Int} (h:c≠58/\c≠45/\c≠40/\c≠41/\c≠44/\c≠43/\c≠34/\au c=false):Ft c:=by
 obtain⟨h0,h1,h2,h3,h4,h5,h6,h7⟩:=h
 simp only[au,decide_eq_false_iff_not] at h7
 constructor<;>(rw[beq_eq_false_iff_ne];omega)
theorem yq (s:ByteArray) (i:Nat) (w:World) (hi:i<s.size) (hs:s.size<=140737488355328)
 (hf:bt s.data.toList i≠58/\bt s.data.toList i≠45/\bt s.data.toList i≠40/\bt s.data.toList i≠41/\bt s.data.toList i≠44/\bt s.data.toList i≠43/\bt s.data.toList i≠34/\au (bt s.data.toList i)=false)
 (hl:aR (bt s.data.toList i)=false):d6 s i w:=by
 unfold d6
 have hE:aA (s.data.toList.drop i) i=(fY,71):=by
  obtain⟨h0,h1,h2,h3,h4,h5,h6,h7⟩:=hf
  unfold aA
  rw[gU,l9,if_neg h0,if_neg (by rw[h7];simp;omega),if_neg (by omega),hl]
  rfl
 obtain⟨a0,a1,a2,a3,a4,a5,a6,b0,b1,b2,b3,b4,b5,b6,b7,b8,b9⟩:=BS hf
 have hbt:=bJ s i hi
 have hbt1:∀ h:i+1<s.size,((s[i+1]'h).toNat:Int)=bt s.data.toList (i+1):=bJ s (i+1)
 have HB0:=Fx (show Below w.heap.size w (w.alloc (.cells #[.int .i64 0,.string ⟨#[]⟩,.int .i64 0,.int .i64 0,.string ⟨#[]⟩,.int .i64 0] 122)) from ae Fy _)
 have HE:=Fx hE
 clear hE hf
 generalize bt s.data.toList (i+1)=nx at *
 generalize bt s.data.toList i=c at *
 by_cases h1:i+1<s.size
 all_goals
  go_enter func179,ntmps179
  go_wp2_with (go_at_call 152;refine (bH _ _).mono ?_;rintro e w' ⟨rfl,rfl⟩)
  refine bodyPost_ret (v:=.tuple #[.agg #[.int .i64 0,.string ⟨#[]⟩,.int .i64 0,.int .i64 0,.string ⟨#[]⟩,.int .i64 0],.int .i64 71]) (by simp [results,results179,go_sem, *]) rfl ⟨by rw[HE.out];rfl,HB0.out⟩
theorem Cp {c:Int} (h:aR c=true):c≠58/\c≠45/\c≠40/\c≠41/\c≠44/\c≠43/\c≠34/\au c=false:=by
 simp only[aR,au,decide_eq_true_eq,decide_eq_false_iff_not] at h ⊢
 omega
theorem oO (s:ByteArray) (i:Nat) (w:World) (hi:i<s.size) (hs:s.size<=140737488355328)
 (hl:aR (bt s.data.toList i)=true):d6 s i w:=by
 unfold d6
 have hf:=Cp hl
 have hE:aA (s.data.toList.drop i) i=if 16<ap (s.data.toList.drop i) then (fY,72) else (⟨1,(s.extract i (i+ap (s.data.toList.drop i))).data.toList,0,0,[],i⟩,0):=by
  obtain⟨h0,h1,h2,h3,h4,h5,h6,h7⟩:=hf
  unfold aA
  rw[gU,l9,if_neg h0,if_neg (by rw[h7];simp;omega),if_neg (by omega),hl,if_pos rfl,gI]
 obtain⟨a0,a1,a2,a3,a4,a5,a6,b0,b1,b2,b3,b4,b5,b6,b7,b8,b9⟩:=BS hf
 have hbt:=bJ s i hi
 have hbt1:∀ h:i+1<s.size,((s[i+1]'h).toNat:Int)=bt s.data.toList (i+1):=bJ s (i+1)
 have hne:=lV s i
 have hnl:=fC (s.data.toList.drop i)
 rw[List.length_drop,show s.data.toList.length=s.size from rfl] at hnl
 generalize ap (s.data.toList.drop i)=n at *
 have HNE:=Fx hne
 clear hf hne
 generalize bt s.data.toList (i+1)=nx at *
 generalize bt s.data.toList i=c at *
 have hin:(i:Int)+(n:Int)<=s.size:=by omega
 have hin2:(i:Int)<=(i:Int)+(n:Int):=by omega
 have htn:((i:Int)+(n:Int)).toNat=i+n:=by omega
 by_cases h16:16<n
 ·rw[if_pos h16] at hE
  have HB0:=Fx (show Below w.heap.size w (w.alloc (.cells #[.int .i64 0,.string ⟨#[]⟩,.int .i64 0,.int .i64 0,.string ⟨#[]⟩,.int .i64 0] 122)) from ae Fy _)
  have HE:=Fx hE
  have h17:(16:Int)<(i:Int)+(n:Int) - (i:Int):=by omega
  clear hE
  have h1:i+1<s.size:=by omega
  go_enter func179,ntmps179
  go_wp2_with (first | (go_at_call 152;refine (bH _ _).mono ?_;rintro e w' ⟨rfl,rfl⟩) | (go_at_call 153;refine (HNE.out _ (by omega) (by omega)).mono ?_;rintro e w' ⟨rfl,rfl⟩))
  refine bodyPost_ret (v:=.tuple #[.agg #[.int .i64 0,.string ⟨#[]⟩,.int .i64 0,.int .i64 0,.string ⟨#[]⟩,.int .i64 0],.int .i64 72]) (by simp [results,results179,go_sem, *]) rfl ⟨by rw[HE.out];rfl,HB0.out⟩
 ·rw[if_neg h16] at hE
  have HB0:=Fx (show Below w.heap.size w (w.alloc (.cells #[.int .i64 1,.string (s.extract i (i+n)),.int .i64 0,.int .i64 0,.string ⟨#[]⟩,.int .i64 i] 122)) from ae Fy _)
  have HE:=Fx hE
  have h17:(i:Int)+(n:Int) - (i:Int)<=16:=by omega
  clear hE
  by_cases h1:i+1<s.size
  all_goals
   go_enter func179,ntmps179
   go_wp2_with (first | (go_at_call 152;refine (bH _ _).mono ?_;rintro e w' ⟨rfl,rfl⟩) | (go_at_call 153;refine (HNE.out _ (by omega) (by omega)).mono ?_;rintro e w' ⟨rfl,rfl⟩))
   refine bodyPost_ret (v:=.tuple #[.agg #[.int .i64 1,.string (s.extract i (i+n)),.int .i64 0,.int .i64 0,.string ⟨#[]⟩,.int .i64 i],.int .i64 0]) (by simp [results,results179,go_sem, *]) rfl ⟨by rw[HE.out];rfl,HB0.out⟩
theorem C5 (s:ByteArray) (i:Nat) (w:World) (hi:i<s.size) (hs:s.size<=140737488355328) (hg:bY w):d6 s i w:=by
 by_cases h58:bt s.data.toList i=58
 ·by_cases hn:bt s.data.toList (i+1)=45
  ·exact rd s i w hi hs h58 hn
  ·exact oK s i w hi hs h58 hn
 by_cases h45:bt s.data.toList i=45
 ·cases hd:au (bt s.data.toList (i+1)) with
  | true=>exact oD s i w hi hs hg h45 hd
  | false=>exact nW s i w hi hs h45 hd
 by_cases hm:bt s.data.toList i=40∨bt s.data.toList i=41∨bt s.data.toList i=44∨bt s.data.toList i=43
 ·exact Aa s i w hi hs hg hm
 by_cases hl:bt s.data.toList i=34∨au (bt s.data.toList i)=true
 ·exact CG s i w hi hs hg hl
 cases hlt:aR (bt s.data.toList i) with
 | true=>exact oO s i w hi hs hlt
 | false =>
   refine yq s i w hi hs ⟨h58,h45,fun h=>hm (.inl h),fun h=>hm (.inr (.inl h)),fun h=>hm (.inr (.inr (.inl h))),fun h=>hm (.inr (.inr (.inr h))),fun h=>hl (.inl h),?_⟩ hlt
   cases hd:au (bt s.data.toList i) with
   | true=>exact absurd (.inr hd) hl
   | false=>rfl
theorem Tryz.infoTok:(prog.info? 122).map (fun i=>(i.zero,i.size,i.bytes))=some (some (.agg #[.int .i64 0,.string ⟨#[]⟩,.int .i64 0,.int .i64 0,.string ⟨#[]⟩,.int .i64 0]),6,64):=by kernel_rfl
theorem ei (s:ByteArray) (w:World) (hs:s.size<=140737488355328) :
 Calls prog 71 #[.string s] w fun e w'=>e=.returned (.bool (ai s.data.toList))/\w=w':=by
 have hsl:s.data.toList.length=s.size:=rfl
 by_cases h0:s.size=0
 ·have hd:s.data.toList=[]:=List.length_eq_zero_iff.1 (by omega)
  have hE:ai s.data.toList=false:=by unfold ai;simp [hd]
  obtain rfl:s=ByteArray.empty:=by
   apply ByteArray.ext
   exact Array.size_eq_zero_iff.1 h0
  have HE:=Fx hE
  clear hE hsl hd
  go_enter func71,ntmps71
  go_wp2_with fail
  go_ret
  exact⟨by rw[HE.out];rfl,rfl⟩
 ·have h0':0<s.size:=by omega
  have hbt:=bJ s 0 h0'
  have hne:=lV s 0 w (by omega) (by omega)
  rw[List.drop_zero,Nat.zero_add] at hne
  have hE:ai s.data.toList=(aR (bt s.data.toList 0) && (decide (ap s.data.toList=s.size) && decide (s.size<=16))):=by
   unfold ai
   rw[hsl]
   have:s.data.toList≠[]:=fun e=>by rw[e] at hsl;simp at hsl;omega
   by_cases a:aR (bt s.data.toList 0)=true<;>by_cases b:ap s.data.toList=s.size<;>by_cases c:s.size<=16<;>simp [this,a,b,c]
  rw[hE]
  have hem:s.toList.isEmpty=false:=by
   rw[ByteArray.toList_eq]
   cases h:s.data.toList with
   | nil=>rw[h] at hsl;simp at hsl;omega
   | cons _ _=>rfl
  have HNE:=Fx hne
  clear hE hne hsl
  generalize ap s.data.toList=n at *
  have q16:decide ((s.size:Int)<=16)=decide (s.size<=16):=decide_eq_decide.2 (by omega)
  cases hl:aR (bt s.data.toList 0) with
  | false =>
    go_enter func71,ntmps71
    go_wp2_with (go_at_call 152;refine (bH _ _).mono ?_;rintro e w' ⟨rfl,rfl⟩)
    go_ret
    exact⟨rfl,rfl⟩
  | true =>
    by_cases hn:n=s.size
    ·have qn:((n:Int) == (s.size:Int))=true:=by simp [hn]
     rw[decide_eq_true hn]
     clear hn
     go_enter func71,ntmps71
     go_wp2_with (first | (go_at_call 152;refine (bH _ _).mono ?_;rintro e w' ⟨rfl,rfl⟩) | (go_at_call 153;refine HNE.out.mono ?_;rintro e w' ⟨rfl,rfl⟩))
     go_ret
     exact⟨rfl,rfl⟩
    ·have qn:((n:Int) == (s.size:Int))=false:=by rw[beq_eq_false_iff_ne];omega
     rw[decide_eq_false hn]
     clear hn
     go_enter func71,ntmps71
     go_wp2_with (first | (go_at_call 152;refine (bH _ _).mono ?_;rintro e w' ⟨rfl,rfl⟩) | (go_at_call 153;refine HNE.out.mono ?_;rintro e w' ⟨rfl,rfl⟩))
     go_ret
     exact⟨rfl,rfl⟩
def wZ (e:TypeId) (w:World) (R:zC) (x:Ending) (w':World):Prop :=
 ∃ a cap,x=.returned (.tuple #[.slice a R.ts.length cap,.int .i64 R.at_,.int .i64 R.e])/\w'.ownsRow w.heap.size e 6 (.slice a R.ts.length cap) R.ts.length (cO R.ts)/\Below w.heap.size w w'
theorem rx (t:ak):∀ u∈t.cells,u.oneCell'=true:=by
 intro u hu
 simp [ak.cells] at hu
 rcases hu with rfl | rfl | rfl | rfl | rfl | rfl<;>rfl
theorem Ca (w:World) (o:Obj) (t:TypeId) (cs:Array Value):af ((w.alloc o).alloc (.cells cs t)) (w.heap.size+1) t cs:=by
 have h:=af.new (w.alloc o) t cs
 simpa using h
theorem DS {c:Int} (h:c=32∨c=9):fZ c=true:=by unfold fZ;exact decide_eq_true h
theorem Df {c:Int} (h:¬ (c=32∨c=9)):fZ c=false:=by unfold fZ;exact decide_eq_false h
theorem jy (s:ByteArray) (w:World) (hs:s.size<=281474976710656) (hg:bY w) :
 Calls prog 103 #[.string s] w (wZ 122 w (aN s.data.toList)):=by
 obtain⟨i0,hi0,hz0,hz1,hz2⟩:=info_parts Tryz.infoTok
 have hsl:s.data.toList.length=s.size:=rfl
 by_cases hlong:16384<s.size
 ·have hE:aN s.data.toList=⟨[],0,70⟩:=by unfold aN;rw[if_pos (by omega)]
  rw[hE]
  clear hE
  go_enter func103,ntmps103
  go_wp2_with fail
  go_ret3
  exact⟨none,0,rfl,World.ownsRow_nil _ _ _ _,Below.refl _ _⟩
 have hE:(LX (s.data.toList.drop 0) 0).behind []=aN s.data.toList:=by
  rw[vN,List.drop_zero];unfold aN;rw[if_neg (by omega)]
 have hone:=fun i W=>C5 s i W
 unfold d6 at hone
 have hlg:s.size<=16384:=by omega
 have HONE:=Fx hone
 have HSL:=Fx hsl
 have HE:=Fx hE
 have HG:=Fx hg
 clear hone hsl hE hg hlong
 generalize aN s.data.toList=R at *
 generalize hL:s.data.toList=l at *
 have HL:=Fx hL
 clear hL
 go_enter func103,ntmps103
 go_wp2_with fail
 go_loopw [5,2] (fun ix v wr=>∃ (k:Nat) (acc:List ak) (a:Option Addr) (cap:Nat),k<=s.size/\ix=.int .i64 k/\v=.slice a acc.length cap/\wr.ownsRow w.heap.size 122 6 (.slice a acc.length cap) acc.length (cO acc)/\Below w.heap.size w wr/\acc.length<=k/\(LX (l.drop k) k).behind acc=R) (fun ix _ _=>s.size - (intOf ix).toNat)
 case atStart =>
  exact⟨0,[],none,0,Fz,rfl,rfl,World.ownsRow_nil _ _ _ _,Below.refl _ _,by simp,HE.out⟩
 case round =>
  obtain⟨k,acc,a,cap,hk,rfl,rfl,hown,hbel,hacc,hrel⟩:=hrel
  have HR:=Fx hrel
  have HO:=Fx hown
  have HBE:=Fx hbel
  have hsz:=hbel.size
  clear hrel hown hbel
  by_cases hlt:k<s.size
  ·have hbt:=bJ s k hlt
   rw[HL.out] at hbt
   have hkl:k<l.length:=by have:=HSL.out;omega
   by_cases h35:bt l k=35
   ·have HEE:Hid (R=⟨acc++[aF s.size],0,0⟩):=Fx (by
     rw[<-HR.out,nJ acc (.inr (by rw[gU];exact h35))]
     rw[List.length_drop,HSL.out,Nat.add_sub_cancel' hk])
    rw[h35] at hbt
    clear h35
    go_wp2_with (at_builtin;refine wpList_append_lies _ rfl (.tmp 52) (.tmp 56) 176 rfl w.heap.size 122 i0 (.agg #[.int .i64 0,.string ⟨#[]⟩,.int .i64 0,.int .i64 0,.string ⟨#[]⟩,.int .i64 0]) 6 64 underlying176 hi0 hz0 hz1 hz2 rfl (by decide) (.slice a acc.length cap) acc.length _ rfl (HO.out.alloc _) ⟨_,0,none⟩ 1 1 (aF s.size).cells rfl rfl (World.news_of_block (af.new _ _ _)) (rx _) (by decide) ?c3 ?c5 ?c4 _ rfl ?_)
    case c3=>unfold maxLen;omega
    case c5=>omega
    case c4=>simp;omega
    intro g cap1 w2 hown2 hgrow2 hat2 hlt2
    have hb2:Below w.heap.size w w2:=(ae HBE.out _).grown hgrow2 (by simp;omega) (fun q hq=>(HO.out.lt q hq).1)
    go_wp2_with fail
    go_ret3
    rw[HEE.out]
    refine⟨some ⟨g,0,none⟩,cap1,by simp,?_,hb2⟩
    rw[show (acc++[aF s.size]).length=acc.length+1 by simp,ib]
    exact hown2
   ·have q35:(bt l k != 35)=true:=by simpa using h35
    have hne:¬ (l.drop k=[]∨bt (l.drop k) 0=35):=by
     rw[gU]
     exact fun e=>e.elim (eR hkl) h35
    by_cases hsp:bt l k=32∨bt l k=9
    ·have hb:=dz (p:=k) hne (by rw[gU];exact DS hsp)
     rw[List.drop_drop] at hb
     rw[hb] at HR
     clear h35 hne hb
     rcases hsp with h | h
     all_goals
      rw[h] at hbt
      clear h q35
      go_wp2_with fail
      go_round
      case rel=>exact⟨k+1,acc,a,cap,by omega,by go_num,rfl,HO.out,HBE.out,by omega,HR.out⟩
      case measure=>simp [intOf];omega
    ·have hspf:=Df hsp
     rw[<-gU] at hspf
     have q32:(bt l k == 32)=false:=by rw[beq_eq_false_iff_ne];exact fun h=>hsp (.inl h)
     have q9:(bt l k == 9)=false:=by rw[beq_eq_false_iff_ne];exact fun h=>hsp (.inr h)
     have hbo:=HONE.out k wr hlt (by omega) (HG.out.below HBE.out)
     have hls:R=if (aA (l.drop k) k).2=0 then (LX (l.drop (k+(aA (l.drop k) k).1.x.length)) (k+(aA (l.drop k) k).1.x.length)).behind (acc++[(aA (l.drop k) k).1]) else ⟨[],k,(aA (l.drop k) k).2⟩:=by
      rw[<-HR.out]
      split
      ·rename_i hz
       rw[uG acc hne hspf hz,List.drop_drop]
      ·rename_i hz
       exact wk acc hne hspf hz
     have hlen:=fun hz=>dB (r:=l.drop k) (p:=k) hz (eR hkl)
     rw[List.length_drop,HSL.out] at hlen
     clear h35 hsp hspf hne
     generalize aA (l.drop k) k=o at *
     obtain⟨⟨tk,tx,tvk,tvn,tvt,tp⟩,e0⟩:=o
     unfold ak.v at hbo
     simp only at hls hlen hbo
     have HBO:=Fx hbo
     clear hbo HONE HR
     by_cases he:e0=0
     ·subst he
      obtain⟨l1,htx,l3⟩:=hlen rfl
      clear htx
      rw[if_pos rfl] at hls
      have HLS:=Fx hls
      clear hls hlen
      go_wp2_with fail
      refine HBO.out.mono ?_
      rintro e w1 ⟨rfl,hb1⟩
      have hsz1:=hb1.size
      have hb1':=HBE.out.trans (hb1.mono hsz)
      have hown1:=(aq.ofBelow (F:=fun _=>False) hb1).ownsRow HO.out (fun _ _ f=>f)
      have HO1:=Fx hown1
      have HB1:=Fx hb1'
      clear hown1 hb1 hb1'
      go_wp2_with (at_builtin;refine wpList_append_lies _ rfl (.tmp 43) (.tmp 45) 176 rfl w.heap.size 122 i0 (.agg #[.int .i64 0,.string ⟨#[]⟩,.int .i64 0,.int .i64 0,.string ⟨#[]⟩,.int .i64 0]) 6 64 underlying176 hi0 hz0 hz1 hz2 rfl (by decide) (.slice a acc.length cap) acc.length _ rfl ((HO1.out.alloc _).alloc _) ⟨w1.heap.size+1,0,none⟩ 1 1 (⟨tk,tx,tvk,tvn,tvt,tp⟩:ak).cells rfl rfl (World.news_of_block (Ca _ _ _ _)) (rx _) (by decide) ?c3 ?c5 ?c4 _ rfl ?_)
      case c3=>unfold maxLen;omega
      case c5=>omega
      case c4=>simp;omega
      intro g cap1 w2 hown2 hgrow2 hat2 hlt2
      have hb2:Below w.heap.size w w2:=(ae (ae HB1.out _) _).grown hgrow2 (by simp;omega) (fun q hq=>(HO1.out.lt q hq).1)
      have hblk:=(((af.new w1 122 #[.int .i64 tk,.string ⟨tx.toArray⟩,.int .i64 tvk,.int .i64 tvn,.string ⟨tvt.toArray⟩,.int .i64 tp]).alloc (.cells #[.int .i64 tk,.string ⟨tx.toArray⟩,.int .i64 tvk,.int .i64 tvn,.string ⟨tvt.toArray⟩,.int .i64 tp] 122)).grown hgrow2 (fun e=>by have:=(HO1.out.lt _ e.symm).2;omega))
      have r1:=hblk.cell 1
      simp only[FF] at r1
      have HO2:=Fx hown2
      clear hown2 hblk
      go_wp2_with fail
      go_round
      case rel =>
       refine⟨k+tx.length,acc++[⟨tk,tx,tvk,tvn,tvt,tp⟩],some ⟨g,0,none⟩,cap1,by omega,?_,by simp,?_,hb2,by simp;omega,HLS.out.symm⟩
       ·go_num
       ·rw[show (acc++[(⟨tk,tx,tvk,tvn,tvt,tp⟩:ak)]).length=acc.length+1 by simp,ib]
        exact HO2.out
      case measure=>simp [intOf];omega
     ·have q0:(e0 != 0)=true:=by simpa using he
      rw[if_neg he] at hls
      have HLS:=Fx hls
      clear hls hlen he
      go_wp2_with fail
      refine HBO.out.mono ?_
      rintro e w1 ⟨rfl,hb1⟩
      have hb1':=HBE.out.trans (hb1.mono hsz)
      have HB1:=Fx (ae hb1' (.cells #[.int .i64 tk,.string ⟨tx.toArray⟩,.int .i64 tvk,.int .i64 tvn,.string ⟨tvt.toArray⟩,.int .i64 tp] 122))
      clear hb1 hb1'
      go_wp2_with fail
      go_ret3
      rw[HLS.out]
      exact⟨none,0,rfl,World.ownsRow_nil _ _ _ _,HB1.out⟩
  ·have hke:k=s.size:=by omega
   subst hke
   have HEE:Hid (R=⟨acc++[aF s.size],0,0⟩):=Fx (by
    rw[<-HR.out,nJ acc (.inl (List.drop_of_length_le (by have:=HSL.out;omega)))]
    rw[List.length_drop,HSL.out,Nat.sub_self,Nat.add_zero])
   go_wp2_with (at_builtin;refine wpList_append_lies _ rfl (.tmp 52) (.tmp 56) 176 rfl w.heap.size 122 i0 (.agg #[.int .i64 0,.string ⟨#[]⟩,.int .i64 0,.int .i64 0,.string ⟨#[]⟩,.int .i64 0]) 6 64 underlying176 hi0 hz0 hz1 hz2 rfl (by decide) (.slice a acc.length cap) acc.length _ rfl (HO.out.alloc _) ⟨_,0,none⟩ 1 1 (aF s.size).cells rfl rfl (World.news_of_block (af.new _ _ _)) (rx _) (by decide) ?c3 ?c5 ?c4 _ rfl ?_)
   case c3=>unfold maxLen;omega
   case c5=>omega
   case c4=>simp;omega
   intro g cap1 w2 hown2 hgrow2 hat2 hlt2
   have hb2:Below w.heap.size w w2:=(ae HBE.out _).grown hgrow2 (by simp;omega) (fun q hq=>(HO.out.lt q hq).1)
   go_wp2_with fail
   go_ret3
   rw[HEE.out]
   refine⟨some ⟨g,0,none⟩,cap1,by simp,?_,hb2⟩
   rw[show (acc++[aF s.size]).length=acc.length+1 by simp,ib]
   exact hown2
structure bd where
 x:List UInt8
 k:Int
deriving DecidableEq
structure aU where
 name:List UInt8
 cols:List bd
deriving DecidableEq
def bd.cells (c:bd):List Value:=[.string ⟨c.x.toArray⟩,.int .i64 c.k]
theorem jV (cs:List bd):∀ x∈cs.map bd.cells,x.length=2:=by
 intro x hx
 simp at hx
 obtain⟨t,_,rfl⟩:=hx
 rfl
theorem Dt (cs:List bd):∀ x∈cs.map bd.cells,∀ u∈x,u.oneCell'=true:=by
 intro x hx u hu
 simp at hx
 obtain⟨t,_,rfl⟩:=hx
 simp only[bd.cells,List.mem_cons,List.not_mem_nil,or_false] at hu
 rcases hu with rfl | rfl<;>rfl
def aO (w:World) (v:Value) (cs:List bd):Prop:=aj w v 2 (cs.map bd.cells)
def bV (B:Nat) (w:World) (v:Value) (cs:List bd):Prop:=w.ownsRow B 109 2 v cs.length (cs.flatMap bd.cells)
theorem kY (cs:List bd):(cs.map bd.cells).flatten=cs.flatMap bd.cells:=by
 induction cs with
 | nil=>rfl
 | cons a l ih=>simp [ih]
theorem bV.at {B:Nat} {w:World} {v:Value} {cs:List bd} (h:bV B w v cs) (hl:cs.length<=8796093022208):aO w v cs:=by
 refine aj.ofOwn (base:=B) (e:=109) (n:=cs.length) ?_ (by simp) (jV cs) (by simpa using hl)
 rw[kY]
 exact h
theorem aO.keep {w w':World} {v:Value} {cs:List bd} (h:aO w v cs) (hb:Below w.heap.size w w'):aO w' v cs:=aj.keep h hb
theorem aO.len {w:World} {v:Value} {cs:List bd} (h:aO w v cs):cs.length<=8796093022208:=by simpa using aj.len h
theorem aO.form {w:World} {v:Value} {cs:List bd} (h:aO w v cs):∃ (ad:Option Addr) (cap:Nat),v=.slice ad cs.length cap/\cs.length<=cap/\cap<=maxLen:=by
 obtain⟨ad,cap,h1,h2,h3⟩:=aj.form h
 exact⟨ad,cap,by simpa using h1,by simpa using h2,h3⟩
theorem aO.get {w:World} {v:Value} {cs:List bd} (h:aO w v cs) {i:Nat} {c:bd} (hi:cs[i]? = some c):∃ b off cap:Nat,v=.slice (some ⟨b,off,none⟩) cs.length cap/\cs.length<=cap/\cap<=maxLen/\b<w.heap.size/\w.cell? ⟨b,off+i * 2,none⟩=some (.string ⟨c.x.toArray⟩)/\w.cell? ⟨b,off+i * 2+1,none⟩=some (.int .i64 c.k):=by
 obtain⟨b,off,cap,h1,h2,h3,h4,h5⟩:=aj.get h (i:=i) (x:=c.cells) (by simp [hi])
 exact⟨b,off,cap,by simpa using h1,by simpa using h2,h3,h4,by simpa using h5 0 _ rfl,by simpa using h5 1 _ rfl⟩
def dF (seen:List (List UInt8)):List bd->Nat->Int
 | [],_ => -1
 | c::r,i=>if c.x∈seen then i else dF (seen++[c.x]) r (i+1)
def dE (l:List bd):Int:=dF [] l 0
theorem pD {l:List bd} {k:Nat} {c:bd} (h:l[k]? = some c) (hm:c.x∈(l.take k).map (·.x)):dF ((l.take k).map (·.x)) (l.drop k) k=k:=by
 rw[List.drop_eq_getElem_cons (FE h).1,(FE h).2]
 unfold dF
 rw[if_pos hm]
theorem n9 {l:List bd} {k:Nat} {c:bd} (h:l[k]? = some c) (hm:c.x ∉ (l.take k).map (·.x)):dF ((l.take k).map (·.x)) (l.drop k) k=dF ((l.take (k+1)).map (·.x)) (l.drop (k+1)) (k+1):=by
 rw[List.drop_eq_getElem_cons (FE h).1,(FE h).2]
 conv=>lhs;unfold dF
 rw[if_neg hm,List.take_add_one,h]
 simp
theorem fK:∀ (l:List bd) (seen:List (List UInt8)) (i:Nat),dF seen l i = -1∨∃ j:Nat,dF seen l i=j/\i<=j/\j<i+l.length
 | [],seen,i=>.inl rfl
 | s::r,seen,i=>by
   unfold dF
   split
   ·exact .inr ⟨i,rfl,FA,by simp⟩
   ·rcases fK r (seen++[s.x]) (i+1) with h | ⟨j,h1,h2,h3⟩
    ·exact .inl h
    ·exact .inr ⟨j,h1,by omega,by simp;omega⟩
def jM (c:bd):Bool:=decide (c.k≠1/\c.k≠2)
def cr (nm:List UInt8) (cs:List bd):Int :=
 if ai nm=false then 72 else if (cs.any fun c => !ai c.x)=true then 72 else if 5<cs.length then 81 else if cs.any jM=true then 83 else if 0<=dE cs then 82 else 0
def bM (k:Int):List UInt8:=if k=2 then [116,101,120,116] else [105,110,116]
def eh (c:bd):List UInt8:=c.x++[32]++bM c.k
def ct (nm:List UInt8) (cs:List bd):List UInt8:=if cr nm cs=0 then nm++[40]++Lib.join (cs.map eh) [44,32]++[41] else []
theorem oE (g:Nat) (lb:Array Value) (eg:∀ args w,(callFunc g args).run prog w=.ok (.enter g args) w) (p:List Value->Bool) (w:World) (v:Value) (xs:List (List Value)) (h:aj w v 2 xs) (hl:∀ x∈xs,x.length=2)
 (hf:∀ (W:World) (x:List Value),Below w.heap.size w W->x∈xs->Calls prog g (#[.agg x.toArray]++lb) W fun e W'=>e=.returned (.bool (p x))/\Below W.heap.size W W') :
 Calls prog 212 #[v,.func (.func g) #[] lb] w fun e w'=>e=.returned (.int .i64 (hC p xs))/\Below w.heap.size w w':=by
 obtain⟨ad,cap,rfl,hnc,hcm⟩:=h.form
 have hln:=h.len
 have HR:=Fx h
 have HL:=Fx hl
 have HF:=Fx hf
 unfold maxLen at hcm
 generalize hn:xs.length=n at *
 have HN:=Fx hn
 clear h hl hf hn
 go_enter func212,ntmps212
 go_wp2_with fail
 go_loopw [5,8] (fun _ i wr=>∃ k:Nat,k<=n/\i=.int .i64 k/\Hid (Below w.heap.size w wr)/\Hid (∀ x∈xs.take k,p x=false)) (fun _ i _=>n - (intOf i).toNat)
 case atStart=>exact⟨0,Fz,rfl,Fx Fy,Fx (by simp)⟩
 case round =>
  obtain⟨k,hk,rfl,HB,HP⟩:=hrel
  by_cases hlt:k<n
  ·obtain⟨x,hx⟩:∃ x,xs[k]? = some x:=⟨xs[k]'(by rw[HN.out];exact hlt),FD (by rw[HN.out];exact hlt)⟩
   have hm:x∈xs:=FC hx
   obtain⟨b,off,cap',hv,_,_,hbl,hce⟩:=(HR.out.keep HB.out).get hx
   rw[HN.out] at hv
   simp only[Value.slice.injEq,true_and] at hv
   obtain⟨rfl,rfl⟩:=hv
   obtain⟨e0,e1,rfl⟩:=mw (HL.out x hm)
   have q0:=hce 0 e0 rfl
   have q1:=hce 1 e1 rfl
   simp only[Nat.add_zero] at q0 q1
   have hcall:=HF.out wr _ HB.out hm
   have HX:=Fx hx
   clear hce hm hx
   cases hq:p [e0,e1] with
   | true =>
     rw[hq] at hcall
     have HC:=Fx hcall
     have HQ:=Fx hq
     clear hcall hq
     go_wp2_with fail
     refine HC.out.mono ?_
     rintro e w' ⟨rfl,hb'⟩
     have HB':=Fx hb'
     clear hb'
     go_wp2_with fail
     go_ret
     refine⟨?_,HB.out.trans (HB'.out.mono HB.out.size)⟩
     rw[kq HX.out HQ.out HP.out]
     rfl
   | false =>
     rw[hq] at hcall
     have HC:=Fx hcall
     have HQ:=Fx hq
     clear hcall hq
     go_wp2_with fail
     refine HC.out.mono ?_
     rintro e w' ⟨rfl,hb'⟩
     have HB':=Fx hb'
     clear hb'
     go_wp2_with fail
     go_roundw
     case rel =>
      refine⟨k+1,by omega,by go_num,Fx (HB.out.trans (HB'.out.mono HB.out.size)),Fx ?_⟩
      rw[List.take_add_one,HX.out]
      intro y hy
      simp at hy
      rcases hy with hy | rfl
      ·exact HP.out y hy
      ·exact HQ.out
     case measure=>simp [intOf];omega
  ·obtain rfl:k=n:=by omega
   go_wp2_with fail
   go_ret
   refine⟨?_,HB.out⟩
   have hp:=HP.out
   rw[List.take_of_length_le (by rw[HN.out];exact FA)] at hp
   rw[iR hp]
   rfl
theorem ga (g:Nat) (lb:Array Value) (eg:∀ args w,(callFunc g args).run prog w=.ok (.enter g args) w) (p:List Value->Bool) (w:World) (v:Value) (xs:List (List Value)) (h:aj w v 2 xs) (hl:∀ x∈xs,x.length=2)
 (hf:∀ (W:World) (x:List Value),Below w.heap.size w W->x∈xs->Calls prog g (#[.agg x.toArray]++lb) W fun e W'=>e=.returned (.bool (p x))/\Below W.heap.size W W') :
 Calls prog 161 #[v,.func (.func g) #[] lb] w fun e w'=>e=.returned (.bool (xs.any p))/\Below w.heap.size w w':=by
 have HI:=Fx (oE g lb eg p w v xs h hl hf)
 have hb:=Bc p xs
 have HA:=Fx hb
 clear h hl hf hb
 go_enter func161,ntmps161
 go_wp2_with fail
 refine HI.out.mono ?_
 rintro e w' ⟨rfl,hb'⟩
 have HB':=Fx hb'
 clear hb'
 generalize hC p xs=q at *
 go_wp2_with fail
 go_ret
 exact⟨by rw[<-HA.out];rfl,HB'.out⟩
theorem qw (k:Int) (w:World):Calls prog 148 #[.int .i64 k] w fun e w'=>e=.returned (.string ⟨(bM k).toArray⟩)/\w=w':=by
 unfold bM
 by_cases h:k=2
 ·rw[if_pos h]
  subst h
  go_enter func148,ntmps148
  go_wp2_with fail
  go_ret
  exact⟨rfl,rfl⟩
 ·rw[if_neg h]
  have hb:(k == 2)=false:=by simpa using h
  go_enter func148,ntmps148
  go_wp2_with fail
  go_ret
  exact⟨rfl,rfl⟩
theorem qi (w:World) (d:bd) (b:Nat) (s:List UInt8) (hc:w.cell? ⟨b,0,none⟩=some (.string ⟨s.toArray⟩)) :
 Calls prog 197 #[.agg #[.string ⟨d.x.toArray⟩,.int .i64 d.k],.pointer (some ⟨b,0,none⟩)] w fun e w'=>e=.returned (.bool (decide (d.x=s)))/\Below w.heap.size w w':=by
 have hbl:=World.block_lt_of_cell? w _ hc
 simp at hbl
 have hne:b≠w.heap.size:=by omega
 have hc2:(w.alloc (.cells #[.string ⟨d.x.toArray⟩,.int .i64 d.k] 109)).cell? ⟨b,0,none⟩=some (.string ⟨s.toArray⟩):=((ae (Below.refl w.heap.size w) _).cell (p:=⟨b,0,none⟩) hbl).trans hc
 have HB:=Fx (ae (Below.refl w.heap.size w) (.cells #[.string ⟨d.x.toArray⟩,.int .i64 d.k] 109))
 by_cases h:d.x=s
 ·subst h
  rw[decide_eq_true rfl]
  go_enter func197,ntmps197
  go_wp2_with fail
  go_ret
  exact⟨by simp,HB.out⟩
 ·rw[decide_eq_false h]
  have hq2:¬ ((⟨d.x.toArray⟩:ByteArray)=⟨s.toArray⟩):=fun e=>h (gi.1 e)
  have hq3:(d.x == s)=false:=by simpa using h
  go_enter func197,ntmps197
  go_wp2_with fail
  go_ret
  exact⟨by simp,HB.out⟩
def tS:List Value->List UInt8
 | .string b::_=>b.data.toList
 | _=>[]
theorem BV (s:List UInt8) (l:List bd):(l.map bd.cells).any (fun y=>decide (tS y=s))=decide (s∈l.map (·.x)):=by
 induction l with
 | nil=>rfl
 | cons a l ih =>
   simp only[List.map_cons,List.any_cons,ih,List.mem_cons]
   have:tS a.cells=a.x:=by simp [bd.cells,tS]
   rw[this]
   by_cases h1:a.x=s<;>by_cases h2:s∈l.map (·.x)<;>simp [h1,h2]
   intro h3
   exact absurd h3.symm h1
theorem pI (w:World) (v:Value) (cs:List bd) (h:aO w v cs) :
 Calls prog 128 #[v] w fun e w'=>e=.returned (.int .i64 (dE cs))/\Below w.heap.size w w':=by
 have hmf:∀ (fn:Fn) (first cap:Array Value) (w:World),(Instr.makeFunc fn first cap).run prog w=.ok (.func fn first cap) w:=fun _ _ _ _=>rfl
 obtain⟨ad,cap,rfl,hnc,hcm⟩:=h.form
 have hln:=h.len
 have HR:=Fx h
 unfold maxLen at hcm
 have hres:dF ((cs.take 0).map (·.x)) (cs.drop 0) 0=dE cs:=rfl
 generalize dE cs=RES at *
 have HRES:=Fx hres
 generalize hn:cs.length=n at *
 have HN:=Fx hn
 clear h hn hres
 go_enter func128,ntmps128
 go_wp2_with fail
 go_loopw [7] (fun i wr=>∃ k:Nat,k<=n/\i=.int .i64 k/\Hid (dF ((cs.take k).map (·.x)) (cs.drop k) k=RES)/\Hid (Below w.heap.size w wr)) (fun i _=>n - (intOf i).toNat)
 case atStart=>exact⟨0,Fz,rfl,HRES,Fx Fy⟩
 case round =>
  obtain⟨k,hk,rfl,HE,BW⟩:=hrel
  by_cases hlt:k<n
  ·obtain⟨c,hc⟩:∃ c,cs[k]? = some c:=⟨cs[k]'(by rw[HN.out];exact hlt),FD (by rw[HN.out];exact hlt)⟩
   obtain⟨tb,tfo,tcap,htv,_,_,htbl,t0,t1⟩:=(aO.keep HR.out BW.out).get hc
   simp only[HN.out,Value.slice.injEq,true_and] at htv
   obtain⟨rfl,rfl⟩:=htv
   have hkc:k<=cap:=by omega
   have hb2:Below wr.heap.size wr (wr.alloc (.cells #[.string ⟨c.x.toArray⟩,.int .i64 c.k] 109)):=ae Fy _
   have hrt:aj (wr.alloc (.cells #[.string ⟨c.x.toArray⟩,.int .i64 c.k] 109)) (.slice (some ⟨tb,tfo,none⟩) k cap) 2 ((cs.take k).map bd.cells):=by
    rw[List.map_take]
    exact (((aO.keep HR.out BW.out).keep hb2:aj _ _ _ _)).take (by rw[List.length_map,HN.out];exact hk) (by rw[List.length_map,HN.out])
   have hcf:=ga 197 #[.pointer (some ⟨wr.heap.size,0,none⟩)] (enters_of func197 (by kernel_rfl) rfl) (fun y=>decide (tS y=c.x)) (wr.alloc (.cells #[.string ⟨c.x.toArray⟩,.int .i64 c.k] 109)) _ _ hrt (jV _) (fun W y hb hy=>by
    obtain⟨d,_,rfl⟩:=List.mem_map.1 hy
    have hcell:W.cell? ⟨wr.heap.size,0,none⟩=some (.string ⟨c.x.toArray⟩):=by
     have:=((af.new wr 109 #[.string ⟨c.x.toArray⟩,.int .i64 c.k]).below hb (by simp)).cell 0
     simpa using this
    have hcl:=qi W d wr.heap.size c.x hcell
    have he:tS d.cells=d.x:=by simp [bd.cells,tS]
    rw[he]
    exact hcl)
   rw[BV] at hcf
   have HC:=Fx hc
   have HB2:=Fx hb2
   clear hrt hb2
   by_cases hq:c.x∈(cs.take k).map (·.x)
   ·rw[decide_eq_true hq] at hcf
    have hp:=HE.out
    rw[pD hc hq] at hp
    subst hp
    have HCF:=Fx hcf
    clear hcf hc hq
    go_wp2_with fail
    refine HCF.out.mono ?_
    rintro e w2 ⟨rfl,hb⟩
    have HB3:=Fx (BW.out.trans ((HB2.out.trans (hb.mono (by simp))).mono BW.out.size))
    clear hb
    go_wp2_with fail
    go_ret
    exact⟨rfl,HB3.out⟩
   ·rw[decide_eq_false hq] at hcf
    have hp:=HE.out
    rw[n9 hc hq] at hp
    have HP:=Fx hp
    have HCF:=Fx hcf
    clear hcf hc hq hp
    go_wp2_with fail
    refine HCF.out.mono ?_
    rintro e w2 ⟨rfl,hb⟩
    have HB3:=Fx (BW.out.trans ((HB2.out.trans (hb.mono (by simp))).mono BW.out.size))
    clear hb
    go_wp2_with fail
    go_roundw
    case rel=>exact⟨k+1,by omega,by go_num,HP,HB3⟩
    case measure=>simp [intOf];omega
  ·obtain rfl:k=n:=by omega
   have hp:=HE.out
   rw[List.drop_of_length_le (by rw[HN.out];exact FA)] at hp
   unfold dF at hp
   subst hp
   go_wp2_with fail
   go_ret
   exact⟨rfl,BW.out⟩
theorem tB (w:World) (d:bd) (hs:d.x.length<=140737488355328) :
 Calls prog 162 #[.agg #[.string ⟨d.x.toArray⟩,.int .i64 d.k]] w fun e w'=>e=.returned (.bool (!ai d.x))/\Below w.heap.size w w':=by
 have hnot:∀ (x:Bool) (w:World),(Op.unary .not (.bool x)).run prog w=.ok (.bool (!x)) w:=fun _ _=>rfl
 have HI:=Fx (fun W=>ei ⟨d.x.toArray⟩ W (by simpa [ByteArray.size] using hs))
 have HB:=Fx (ae (Below.refl w.heap.size w) (.cells #[.string ⟨d.x.toArray⟩,.int .i64 d.k] 109))
 obtain⟨q,hq⟩:∃ q,q=ai d.x:=⟨_,rfl⟩
 rw[<-hq]
 have HQ:=Fx hq
 clear hq hs
 go_enter func162,ntmps162
 go_wp2_with fail
 refine (HI.out _).mono ?_
 rintro e w2 ⟨rfl,rfl⟩
 go_wp2_with fail
 go_ret
 exact⟨by rw[HQ.out];rfl,HB.out⟩
theorem ui (w:World) (d:bd) :
 Calls prog 163 #[.agg #[.string ⟨d.x.toArray⟩,.int .i64 d.k]] w fun e w'=>e=.returned (.bool (jM d))/\Below w.heap.size w w':=by
 have HB:=Fx (ae (Below.refl w.heap.size w) (.cells #[.string ⟨d.x.toArray⟩,.int .i64 d.k] 109))
 unfold jM
 by_cases h1:d.k=1
 ·have q1:(d.k != 1)=false:=by simp [h1]
  have hr:decide (d.k≠1/\d.k≠2)=false:=by simp [h1]
  rw[hr]
  clear h1 hr
  go_enter func163,ntmps163
  go_wp2_with fail
  go_ret
  exact⟨rfl,HB.out⟩
 ·have q1:(d.k != 1)=true:=by simpa using h1
  by_cases h2:d.k=2
  ·have q2:(d.k != 2)=false:=by simp [h2]
   have hr:decide (d.k≠1/\d.k≠2)=false:=by simp [h2]
   rw[hr]
   clear h1 h2 hr
   go_enter func163,ntmps163
   go_wp2_with fail
   go_ret
   exact⟨rfl,HB.out⟩
  ·have q2:(d.k != 2)=true:=by simpa using h2
   have hr:decide (d.k≠1/\d.k≠2)=true:=by simp [h1,h2]
   rw[hr]
   clear h1 h2 hr
   go_enter func163,ntmps163
   go_wp2_with fail
   go_ret
   exact⟨rfl,HB.out⟩
def E7:List Value->Int
 | [_,.int _ k]=>k
 | _=>0
theorem yd (p:bd->Bool) (q:List Value->Bool) (hq:∀ c:bd,q c.cells=p c) (l:List bd):(l.map bd.cells).any q=l.any p:=by
 induction l with
 | nil=>rfl
 | cons a l ih=>simp only[List.map_cons,List.any_cons,ih,hq]
theorem n8 (g:Nat) (eg:∀ args w,(callFunc g args).run prog w=.ok (.enter g args) w) (p:bd->Bool) (q:List Value->Bool) (hq:∀ c:bd,q c.cells=p c) (w:World) (b:Nat) (nm:Value) (v:Value) (cs:List bd) (hb:af w b 57 #[nm,v]) (h:aO w v cs)
 (hf:∀ (W:World) (d:bd),d∈cs->Calls prog g #[.agg #[.string ⟨d.x.toArray⟩,.int .i64 d.k]] W fun e W'=>e=.returned (.bool (p d))/\Below W.heap.size W W') :
 Calls prog 160 #[.func (.func g) #[] #[],.pointer (some ⟨b,0,none⟩)] w fun e w'=>e=.returned (.bool (cs.any p))/\Below w.heap.size w w':=by
 have hc:=ga g #[] eg q w v (cs.map bd.cells) h (jV _) (fun W y _ hy=>by
  obtain⟨d,hd,rfl⟩:=List.mem_map.1 hy
  rw[hq]
  exact hf W d hd)
 rw[yd p q hq] at hc
 have x1:=hb.cell 1
 have xl:=hb.lt
 simp only[FF] at x1
 have HC:=Fx hc
 clear hc hb h hf
 generalize cs.any p=RES at *
 go_enter func160,ntmps160
 go_wp2_with fail
 refine HC.out.mono ?_
 rintro e w2 ⟨rfl,hb2⟩
 have HB2:=Fx hb2
 clear hb2
 go_wp2_with fail
 go_ret
 exact⟨rfl,HB2.out⟩
theorem lu (w:World) (nm:ByteArray) (v:Value) (cs:List bd) (h:aO w v cs) (hn:nm.size<=140737488355328) (hc:∀ c∈cs,c.x.length<=140737488355328) :
 Calls prog 79 #[.agg #[.string nm,v]] w fun e w'=>e=.returned (.int .i64 (cr nm.data.toList cs))/\Below w.heap.size w w':=by
 have hmf:∀ (fn:Fn) (first cap:Array Value) (w:World),(Instr.makeFunc fn first cap).run prog w=.ok (.func fn first cap) w:=fun _ _ _ _=>rfl
 have hnot:∀ (x:Bool) (w:World),(Op.unary .not (.bool x)).run prog w=.ok (.bool (!x)) w:=fun _ _=>rfl
 have hbox:=af.new w 57 #[.string nm,v]
 have hb0:Below w.heap.size w (w.alloc (.cells #[.string nm,v] 57)):=ae Fy _
 have HN:=Fx (fun W=>ei nm W hn)
 have e87:=enters_of func162 (P:=prog) (by kernel_rfl) rfl
 have e88:=enters_of func163 (P:=prog) (by kernel_rfl) rfl
 have e84:=enters_of func160 (P:=prog) (by kernel_rfl) rfl
 have HB1:=Fx (fun (W:World) (hW:Below (w.alloc (.cells #[.string nm,v] 57)).heap.size (w.alloc (.cells #[.string nm,v] 57)) W)=>n8 162 e87 (fun c => !ai c.x) (fun y => !ai (tS y)) (fun c=>by simp [bd.cells,tS]) W w.heap.size _ v cs (hbox.below hW (by simp)) (h.keep (hb0.trans (hW.mono (by simp)))) (fun W d hd=>tB W d (hc d hd)))
 have HB2:=Fx (fun (W:World) (hW:Below (w.alloc (.cells #[.string nm,v] 57)).heap.size (w.alloc (.cells #[.string nm,v] 57)) W)=>n8 163 e88 jM (fun y=>jM ⟨[],E7 y⟩) (fun _=>rfl) W w.heap.size _ v cs (hbox.below hW (by simp)) (h.keep (hb0.trans (hW.mono (by simp)))) (fun W d hd=>ui W d))
 have HA:=Fx (fun (W:World) (hW:Below (w.alloc (.cells #[.string nm,v] 57)).heap.size (w.alloc (.cells #[.string nm,v] 57)) W)=>pI W v cs (h.keep (hb0.trans (hW.mono (by simp)))))
 obtain⟨ad,cap,rfl,hnc,hcm⟩:=h.form
 have HBX:=Fx hbox
 have HB0:=Fx hb0
 obtain⟨Q,hQ⟩:∃ Q,Q=cr nm.data.toList cs:=⟨_,rfl⟩
 rw[<-hQ]
 unfold cr at hQ
 generalize ai nm.data.toList=bn at *
 generalize (cs.any fun c => !ai c.x)=bx at *
 generalize cs.any jM=bk at *
 generalize dE cs=ag at *
 generalize cs.length=n at *
 have HQ:=Fx hQ
 clear h hn hc hbox hb0 e87 e88 hQ
 cases bn with
 | false =>
   have hq:=HQ.out
   rw[if_pos rfl] at hq
   have HQ:=Fx hq
   clear hq
   go_enter func79,ntmps79
   go_wp2_with fail
   refine (HN.out _).mono ?_
   rintro e w2 ⟨rfl,rfl⟩
   go_wp2_with fail
   go_ret
   exact⟨by rw[HQ.out];rfl,HB0.out⟩
 | true =>
   have hq:=HQ.out
   rw[if_neg (by decide)] at hq
   have HQ:=Fx hq
   clear hq
   go_enter func79,ntmps79
   go_wp2_with fail
   refine (HN.out _).mono ?_
   rintro e w2 ⟨rfl,rfl⟩
   go_wp2_with fail
   refine (HB1.out _ Fy).mono ?_
   rintro e w2 ⟨rfl,hb2⟩
   have y1:=(HBX.out.below hb2 (by simp)).cell 1
   have yl:=(HBX.out.below hb2 (by simp)).lt
   simp only[FF] at y1
   have H2:=Fx hb2
   have HBB:=Fx (HB0.out.trans (hb2.mono (by simp)))
   clear hb2
   cases bx with
   | true =>
     have hq:=HQ.out
     rw[if_pos rfl] at hq
     have HQ:=Fx hq
     clear hq
     go_wp2_with fail
     go_ret
     exact⟨by rw[HQ.out];rfl,HBB.out⟩
   | false =>
     have hq:=HQ.out
     rw[if_neg (by decide)] at hq
     have HQ:=Fx hq
     clear hq
     by_cases h5:5<n
     ·have hq:=HQ.out
      rw[if_pos h5] at hq
      have HQ:=Fx hq
      clear hq
      have hd:(5:Int)<(n:Int):=by omega
      have hd2:¬ ((n:Int)<=5):=by omega
      go_wp2_with fail
      go_ret
      exact⟨by rw[HQ.out];rfl,HBB.out⟩
     ·have hq:=HQ.out
      rw[if_neg h5] at hq
      have HQ:=Fx hq
      clear hq
      have hd:¬ ((5:Int)<(n:Int)):=by omega
      have hd2:(n:Int)<=5:=by omega
      have hd3:¬ 5<n:=h5
      go_wp2_with fail
      refine (HB2.out _ H2.out).mono ?_
      rintro e w3 ⟨rfl,hb3⟩
      have hb13:=H2.out.trans (hb3.mono H2.out.size)
      have y1:=(HBX.out.below hb13 (by simp)).cell 1
      have yl:=(HBX.out.below hb13 (by simp)).lt
      simp only[FF] at y1
      have H3:=Fx hb13
      have HBC:=Fx (HB0.out.trans (hb13.mono (by simp)))
      clear hb3 hb13
      cases bk with
      | true =>
        have hq:=HQ.out
        rw[if_pos rfl] at hq
        have HQ:=Fx hq
        clear hq
        go_wp2_with fail
        go_ret
        exact⟨by rw[HQ.out];rfl,HBC.out⟩
      | false =>
        have hq:=HQ.out
        rw[if_neg (by decide)] at hq
        have HQ:=Fx hq
        clear hq
        go_wp2_with fail
        refine (HA.out _ H3.out).mono ?_
        rintro e w4 ⟨rfl,hb4⟩
        have HBD:=Fx (HB0.out.trans ((H3.out.trans (hb4.mono H3.out.size)).mono (by simp)))
        clear hb4
        by_cases h6:0<=ag
        ·have hq:=HQ.out
         rw[if_pos h6] at hq
         have HQ:=Fx hq
         clear hq
         have hd4:decide (0<=ag)=true:=decide_eq_true h6
         go_wp2_with fail
         go_ret
         exact⟨by rw[HQ.out];rfl,HBD.out⟩
        ·have hq:=HQ.out
         rw[if_neg h6] at hq
         have HQ:=Fx hq
         clear hq
         have hd4:decide (0<=ag)=false:=decide_eq_false h6
         go_wp2_with fail
         go_ret
         exact⟨by rw[HQ.out];rfl,HBD.out⟩
abbrev jU:=List UInt8 × Int × Int
def jj (c:jU):bd:=⟨c.1,c.2.1⟩
def kG (nm:List UInt8) (l:List jU):aU:=⟨nm,l.map jj⟩
def qG (nm:List UInt8) (l:List jU):PR aU :=
 match l[5]? with
 | some c=>.bad c.2.2 81
 | none =>
   match l[(dE (l.map jj)).toNat]?,decide (0<=dE (l.map jj)) with
   | some h,true=>.bad h.2.2 82
   | _,_=>.ok (kG nm l) []
def jG (c:List ak):PR aU :=
 match tk 1 [] c with
 | .bad a e=>.bad a e
 | .ok t c1 =>
   match aJ eo c1 with
   | .bad a e=>.bad a e
   | .ok l c2 =>
     match tk 0 [] c2 with
     | .bad a e=>.bad a e
     | .ok _ _=>qG t.x l
theorem kO {nm:List UInt8} {l:List jU} {c:jU} (h:l[5]? = some c):qG nm l=.bad c.2.2 81:=by
 unfold qG
 rw[h]
theorem jz {nm:List UInt8} {l:List jU} {c:jU} {j:Nat} (h:l[5]? = none) (hj:dE (l.map jj)=j) (hc:l[j]? = some c):qG nm l=.bad c.2.2 82:=by
 unfold qG
 rw[h]
 simp only
 rw[hj]
 have:decide (0<=(j:Int))=true:=by simp
 rw[this,Int.toNat_natCast,hc]
theorem mI {nm:List UInt8} {l:List jU} (h:l[5]? = none) (hj:dE (l.map jj) = -1):qG nm l=.ok (kG nm l) []:=by
 unfold qG
 rw[h]
 simp only
 rw[hj]
 have:decide (0<=(-1:Int))=false:=by decide
 rw[this]
 split
 ·rename_i h1 h2
  cases h2
 ·rfl
theorem tm {c:List ak} {a e:Int} (h:tk 1 [] c=.bad a e):eo c=.bad a e:=by
 unfold eo
 rw[h]
theorem na {c c1:List ak} {t:ak} {a e:Int} (h:tk 1 [] c=.ok t c1) (h2:tk 1 [[105,110,116],[116,101,120,116]] c1=.bad a e):eo c=.bad a e:=by
 unfold eo
 rw[h]
 simp only[h2]
theorem mY {c c1 c2:List ak} {t u:ak} (h:tk 1 [] c=.ok t c1) (h2:tk 1 [[105,110,116],[116,101,120,116]] c1=.ok u c2):eo c=.ok (t.x,if u.x=[116,101,120,116] then 2 else 1,t.p) c2:=by
 unfold eo
 rw[h]
 simp only[h2]
theorem lp {c:List ak} {a e:Int} (h:tk 1 [] c=.bad a e):jG c=.bad a e:=by
 unfold jG
 rw[h]
theorem lk {c c1:List ak} {t:ak} {a e:Int} (h:tk 1 [] c=.ok t c1) (h2:aJ eo c1=.bad a e):jG c=.bad a e:=by
 unfold jG
 rw[h]
 simp only[h2]
theorem kX {c c1 c2:List ak} {t:ak} {l:List jU} {a e:Int} (h:tk 1 [] c=.ok t c1) (h2:aJ eo c1=.ok l c2) (h3:tk 0 [] c2=.bad a e):jG c=.bad a e:=by
 unfold jG
 rw[h]
 simp only[h2,h3]
theorem mB {c c1 c2 c3:List ak} {t u:ak} {l:List jU} (h:tk 1 [] c=.ok t c1) (h2:aJ eo c1=.ok l c2) (h3:tk 0 [] c2=.ok u c3):jG c=qG t.x l:=by
 unfold jG
 rw[h]
 simp only[h2,h3]
