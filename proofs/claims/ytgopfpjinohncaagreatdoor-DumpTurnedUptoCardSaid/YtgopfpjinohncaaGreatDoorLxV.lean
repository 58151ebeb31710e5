/- lex.literal, walked. lex.one, walked. lex.one at ':' and '-', walked. lex.one at a quote and at a digit, walked. lex.one at a letter and at what begins no token, walked. lex.one whole; lex.IsName, lex.Tokens, walked. lex.Tokens, walked. -/
import Derived.Test.YtgopfpjinohncaaGreatDoorLcV
import Derived.Test.YtgopfpjinohncaaGreatDoorLaV
import Derived.Deep.RegionHeld3
import Derived.Deep.AppendLies
namespace Go.Proofs.YtgopfpjinohncaaGreatDoor
open Go.RowKit
set_option linter.unusedVariables false
theorem scan_at (l:List UInt8) (i:Nat) (hi:i<=l.length):scanR l i=⟨(scanR (l.drop i) 0).k,(scanR (l.drop i) 0).n,(scanR (l.drop i) 0).t,if (scanR (l.drop i) 0).e=0 then i+(scanR (l.drop i) 0).stop else 0,(scanR (l.drop i) 0).e⟩:=by
 have h:=scan_shift (l.take i) (l.drop i)
 rw[List.take_append_drop,List.length_take,Nat.min_eq_left hi] at h
 exact h
set_option maxHeartbeats 8000000 in
set_option maxRecDepth 100000 in
theorem literal_bad (s:ByteArray) (i:Nat) (w:World) (hi:i<s.size) (hs:s.size<=140737488355328) (hg:Glob w) (he:(scanR (s.data.toList.drop i) 0).e≠0) :
 Calls Tryz.prog 233 #[.string s,.int .i64 i] w fun e w'=>e=.returned (.tuple #[(litS (s.data.toList.drop i) i).1.v,.int .i64 (litS (s.data.toList.drop i) i).2])/\Below w.heap.size w w':=by
 have hE:litS (s.data.toList.drop i) i=(tok0,(scanR (s.data.toList.drop i) 0).e):=by unfold litS;rw[if_neg he]
 have hsc:=fun W (hG:Glob W)=>scan_any s i W hs hG
 rw[scan_at _ i (by have:s.data.toList.length=s.size:=rfl;omega)] at hsc
 have HB0:=Lib.hid (show Below w.heap.size w (w.alloc (.cells #[.int .i64 0,.string ⟨#[]⟩,.int .i64 0,.int .i64 0,.string ⟨#[]⟩,.int .i64 0] 122)) from balloc (Below.refl _ _) _)
 generalize scanR (s.data.toList.drop i) 0=r at *
 obtain⟨k,n,t,st,e0⟩:=r
 simp only at he hE
 simp only[Res.v,if_neg he] at hsc
 have HE:=Lib.hid hE
 have HSC:=Lib.hid hsc
 have HG:=Lib.hid hg
 have q:(e0 != 0)=true:=by simpa using he
 clear hE hsc hg he
 go_enter Tryz.func233,Tryz.ntmps233
 go_wp2_with fail
 refine (HSC.out _ (HG.out.below HB0.out)).mono ?_
 rintro e w1 ⟨rfl,hb1⟩
 have hblk1:=(Blk.new w 122 #[.int .i64 0,.string ⟨#[]⟩,.int .i64 0,.int .i64 0,.string ⟨#[]⟩,.int .i64 0]).below hb1 (by simp)
 have hlt1:=hblk1.lt
 have hb1':=HB0.out.trans (hb1.mono (by simp))
 have HBLK:=Lib.hid hblk1
 clear hblk1 hb1
 go_wp2_with (refine wpList_store_blk rfl 122 _ _ rfl w.heap.size 122 _ _ rfl rfl (HBLK.out.alloc _) (by kernel_rfl) rfl (by simp [Value.oneCell']) ?_)
 intro w2 hb2 hm2 hz2
 have hB2:=Mod.own (balloc hb1' _) hm2 (Nat.le_refl _)
 have r0:=hb2.cell 0
 have r1:=hb2.cell 1
 have r2:=hb2.cell 2
 have r3:=hb2.cell 3
 have r4:=hb2.cell 4
 have r5:=hb2.cell 5
 have HB2:=Lib.hid hB2
 clear hb2 hm2 hz2 hB2 hb1' hlt1
 simp only[List.getElem?_toArray,List.getElem?_cons_zero,List.getElem?_cons_succ] at r0 r1 r2 r3 r4 r5
 go_wp2_with fail
 refine bodyPost_ret (v:=.tuple #[tok0.v,.int .i64 e0]) (by simp [results,Tryz.results233,go_sem, *];rfl) rfl ⟨by rw[HE.out],HB2.out⟩
set_option maxHeartbeats 8000000 in
set_option maxRecDepth 100000 in
theorem literal_good (s:ByteArray) (i:Nat) (w:World) (hi:i<s.size) (hs:s.size<=140737488355328) (hg:Glob w) (he:(scanR (s.data.toList.drop i) 0).e=0) :
 Calls Tryz.prog 233 #[.string s,.int .i64 i] w fun e w'=>e=.returned (.tuple #[(litS (s.data.toList.drop i) i).1.v,.int .i64 (litS (s.data.toList.drop i) i).2])/\Below w.heap.size w w':=by
 have hne:s.data.toList.drop i≠[]:=drop_ne hi
 have hll:=lit_len (r:=s.data.toList.drop i) (p:=i) (by unfold litS;rw[if_pos he]) hne
 have hE:litS (s.data.toList.drop i) i=(⟨2,(s.data.toList.drop i).take (scanR (s.data.toList.drop i) 0).stop.toNat,(scanR (s.data.toList.drop i) 0).k,(scanR (s.data.toList.drop i) 0).n,(scanR (s.data.toList.drop i) 0).t,i⟩,0):=by unfold litS;rw[if_pos he]
 have hsc:=fun W (hG:Glob W)=>scan_any s i W hs hG
 rw[scan_at _ i (by have:s.data.toList.length=s.size:=rfl;omega)] at hsc
 have HB0:=Lib.hid (show Below w.heap.size w (w.alloc (.cells #[.int .i64 0,.string ⟨#[]⟩,.int .i64 0,.int .i64 0,.string ⟨#[]⟩,.int .i64 0] 122)) from balloc (Below.refl _ _) _)
 obtain⟨_,h1,h2⟩:=hll
 rw[List.length_drop] at h2
 have hsl:s.data.toList.length=s.size:=rfl
 rw[hsl] at h2
 generalize scanR (s.data.toList.drop i) 0=r at *
 obtain⟨k,n,t,st,e0⟩:=r
 simp only at he h1 h2
 subst he
 obtain⟨m,rfl⟩:=Int.eq_ofNat_of_zero_le (show 0<=st by omega)
 simp only[Res.v,if_true,Int.toNat_natCast] at hsc hE h1 h2
 have hcast:(i:Int)+(m:Int)=((i+m:Nat):Int):=by omega
 rw[hcast] at hsc
 have hx:(s.extract i (i+m)).data.toList=(s.data.toList.drop i).take m:=by simp
 rw[<-hx] at hE
 have him:i+m<=s.size:=by omega
 have HE:=Lib.hid hE
 have HSC:=Lib.hid hsc
 have HG:=Lib.hid hg
 clear hE hsc hg h1 h2 hx hne hsl hcast
 go_enter Tryz.func233,Tryz.ntmps233
 go_wp2_with fail
 refine (HSC.out _ (HG.out.below HB0.out)).mono ?_
 rintro e w1 ⟨rfl,hb1⟩
 have hblk1:=(Blk.new w 122 #[.int .i64 0,.string ⟨#[]⟩,.int .i64 0,.int .i64 0,.string ⟨#[]⟩,.int .i64 0]).below hb1 (by simp)
 have hlt1:=hblk1.lt
 have hb1':=HB0.out.trans (hb1.mono (by simp))
 have HBLK:=Lib.hid hblk1
 clear hblk1 hb1
 go_wp2_with fail
 refine wp_region_any (by kernel_rfl) ?_
 try (change wpAny _ _ _ _ _ _ _ (World.drew _))
 have hle:(i:Int)+(m:Int)<=s.size:=by omega
 have hle2:(i:Int)<=(i:Int)+(m:Int):=by omega
 refine wpAny_take (i:=0) (v:=?_) rfl (by kernel_rfl) (by kernel_rfl) (by kernel_rfl) (fun _ _ _ h=>h) (Or.inl ⟨by rfl,?_⟩) ?_
 rotate_left
 ·intro w
  go_simp
  with_reducible rfl
 refine wpAny_take (i:=1) (v:=?_) rfl (by kernel_rfl) (by kernel_rfl) (by kernel_rfl) (fun _ _ _ h=>h) (Or.inl ⟨by rfl,?_⟩) ?_
 rotate_left
 ·intro w
  go_simp
  with_reducible rfl
 refine wpAny_take (i:=2) (v:=?_) rfl (by kernel_rfl) (by kernel_rfl) (by kernel_rfl) (fun _ _ _ h=>h) (Or.inl ⟨by rfl,?_⟩) ?_
 rotate_left
 ·intro w
  go_simp
  with_reducible rfl
 refine wpAny_take (i:=5) (v:=?_) rfl (by kernel_rfl) (by kernel_rfl) (by kernel_rfl) (fun _ _ _ h=>h) (Or.inl ⟨by rfl,?_⟩) ?_
 rotate_left
 ·intro w
  go_simp
  with_reducible rfl
 refine wpAny_take (i:=3) (v:=?_) rfl (by kernel_rfl) (by kernel_rfl) (by kernel_rfl) (fun _ _ _ h=>h) (Or.inl ⟨by rfl,?_⟩) ?_
 rotate_left
 ·intro w
  go_simp
  with_reducible rfl
 refine wpAny_ready (rs:=[4]) (by kernel_rfl) (by simp) ?_
 refine AllReady.cons rfl (fun K hK=>?_) AllReady.nil
 go_simp
 refine hK _ _ ?_
 clear hK K
 refine wpAny_take (i:=6) (v:=?_) rfl (by kernel_rfl) (by kernel_rfl) (by kernel_rfl) (fun _ _ _ h=>h) (Or.inl ⟨by rfl,?_⟩) ?_
 rotate_left
 ·intro w
  go_simp
  with_reducible rfl
 refine wpAny_ready (rs:=[7]) (by kernel_rfl) (by simp) ?_
 refine AllReady.cons rfl (fun K hK=>?_) AllReady.nil
 refine step_store_blk rfl 122 _ _ rfl w.heap.size 122 _ _ rfl rfl ((HBLK.out.alloc _).drew) (by kernel_rfl) rfl (by simp [Value.oneCell']) ?_
 intro w2 hb2 hm2 hz2
 have hB2:=Mod.own (bdrew (balloc hb1' _)) hm2 (Nat.le_refl _)
 have htn:((i:Int)+(m:Int)).toNat=i+m:=by omega
 rw[htn] at hb2
 have r0:=hb2.cell 0
 have r1:=hb2.cell 1
 have r2:=hb2.cell 2
 have r3:=hb2.cell 3
 have r4:=hb2.cell 4
 have r5:=hb2.cell 5
 have HB2:=Lib.hid hB2
 clear hb2 hm2 hz2 hB2 hb1' hlt1
 simp only[List.getElem?_toArray,List.getElem?_cons_zero,List.getElem?_cons_succ] at r0 r1 r2 r3 r4 r5
 go_simp
 refine hK _ _ ?_
 clear hK K
 refine wpAny_take (i:=8) (v:=?_) rfl (by kernel_rfl) (by kernel_rfl) (by kernel_rfl) (fun _ _ _ h=>h) (Or.inl ⟨by rfl,?_⟩) ?_
 rotate_left
 ·intro w
  go_simp
  with_reducible rfl
 refine wpAny_done (by kernel_rfl) ?_ _
 go_wp2_with fail
 refine bodyPost_ret (v:=.tuple #[.agg #[.int .i64 2,.string (s.extract i (i+m)),.int .i64 k,.int .i64 n,.string ⟨t.toArray⟩,.int .i64 i],.int .i64 0]) (by simp [results,Tryz.results233,go_sem, *]) rfl ⟨by rw[HE.out];rfl,HB2.out⟩
theorem literal_any (s:ByteArray) (i:Nat) (w:World) (hi:i<s.size) (hs:s.size<=140737488355328) (hg:Glob w) :
 Calls Tryz.prog 233 #[.string s,.int .i64 i] w fun e w'=>e=.returned (.tuple #[(litS (s.data.toList.drop i) i).1.v,.int .i64 (litS (s.data.toList.drop i) i).2])/\Below w.heap.size w w':=by
 by_cases he:(scanR (s.data.toList.drop i) 0).e=0
 ·exact literal_good s i w hi hs hg he
 ·exact literal_bad s i w hi hs hg he
theorem drop0 (l:List UInt8) (i:Nat):bt (l.drop i) 0=bt l i:=by rw[bt_drop];rfl
theorem drop1 (l:List UInt8) (i:Nat):bt (l.drop i) 1=bt l (i+1):=by rw[bt_drop]
theorem bt_past {l:List UInt8} {k:Nat} (h:l.length<=k):bt l k=0:=by
 unfold bt
 rw[List.getD_eq_getElem?_getD,List.getElem?_eq_none h]
 rfl
theorem take_extract (s:ByteArray) (i m:Nat):(s.data.toList.drop i).take m=(s.extract i (i+m)).data.toList:=by simp
def OneOk (s:ByteArray) (i:Nat) (w:World):Prop :=
 Calls Tryz.prog 179 #[.string s,.int .i64 i] w fun e w'=>e=.returned (.tuple #[(oneS (s.data.toList.drop i) i).1.v,.int .i64 (oneS (s.data.toList.drop i) i).2])/\Below w.heap.size w w'
set_option maxHeartbeats 8000000 in
set_option maxRecDepth 100000 in
theorem one_mark (s:ByteArray) (i:Nat) (w:World) (hi:i<s.size) (hs:s.size<=140737488355328) (hg:Glob w)
 (hc:bt s.data.toList i=40∨bt s.data.toList i=41∨bt s.data.toList i=44∨bt s.data.toList i=43):OneOk s i w:=by
 unfold OneOk
 have hE:oneS (s.data.toList.drop i) i=(⟨3,(s.extract i (i+1)).data.toList,0,0,[],i⟩,0):=by
  unfold oneS
  rw[drop0,drop1,if_neg (by omega),if_neg (by
   have:digB (bt s.data.toList i)=false:=by rcases hc with h | h | h | h<;>rw[h]<;>rfl
   rw[this];simp;omega),if_pos (.inr hc),take_extract]
 have hbt:=bt_of s i hi
 have hbt1:∀ h:i+1<s.size,((s[i+1]'h).toNat:Int)=bt s.data.toList (i+1):=bt_of s (i+1)
 have HB0:=Lib.hid (show Below w.heap.size w (w.alloc (.cells #[.int .i64 3,.string (s.extract i (i+1)),.int .i64 0,.int .i64 0,.string ⟨#[]⟩,.int .i64 i] 122)) from balloc (Below.refl _ _) _)
 have hsl:s.data.toList.length=s.size:=rfl
 have hle:(i:Int)+1<=s.size:=by omega
 have HE:=Lib.hid hE
 clear hE hg
 generalize hL:s.data.toList=l at *
 have HL:=Lib.hid hL
 have HSL:=Lib.hid hsl
 clear hL hsl
 by_cases h1:i+1<s.size
 all_goals
  have h1':=h1
  rcases hc with h | h | h | h
 all_goals
  rw[h] at hbt
  clear h
  go_enter Tryz.func179,Tryz.ntmps179
  go_wp2_with fail
  refine bodyPost_ret (v:=.tuple #[.agg #[.int .i64 3,.string (s.extract i (i+1)),.int .i64 0,.int .i64 0,.string ⟨#[]⟩,.int .i64 i],.int .i64 0]) (by simp [results,Tryz.results179,go_sem, *]) rfl ⟨by rw[HE.out];rfl,HB0.out⟩
set_option maxHeartbeats 8000000 in
set_option maxRecDepth 100000 in
theorem one_colon_ok (s:ByteArray) (i:Nat) (w:World) (hi:i<s.size) (hs:s.size<=140737488355328)
 (hc:bt s.data.toList i=58) (hn:bt s.data.toList (i+1)=45):OneOk s i w:=by
 unfold OneOk
 have hE:oneS (s.data.toList.drop i) i=(⟨3,[58,45],0,0,[],i⟩,0):=by
  unfold oneS
  rw[drop0,drop1,if_pos hc,if_pos hn]
 have h1:i+1<s.size:=by
  rcases Nat.lt_or_ge (i+1) s.size with h | h
  ·exact h
  ·rw[bt_past (show s.data.toList.length<=i+1 from h)] at hn;omega
 have hbt:=bt_of s i hi
 have hbt1:=bt_of s (i+1) h1
 rw[hc] at hbt
 rw[hn] at hbt1
 have HB0:=Lib.hid (show Below w.heap.size w (w.alloc (.cells #[.int .i64 3,.string ⟨#[58,45]⟩,.int .i64 0,.int .i64 0,.string ⟨#[]⟩,.int .i64 i] 122)) from balloc (Below.refl _ _) _)
 have HE:=Lib.hid hE
 clear hE hc hn
 go_enter Tryz.func179,Tryz.ntmps179
 go_wp2_with fail
 refine bodyPost_ret (v:=.tuple #[.agg #[.int .i64 3,.string ⟨#[58,45]⟩,.int .i64 0,.int .i64 0,.string ⟨#[]⟩,.int .i64 i],.int .i64 0]) (by simp [results,Tryz.results179,go_sem, *]) rfl ⟨by rw[HE.out];rfl,HB0.out⟩
set_option maxHeartbeats 8000000 in
set_option maxRecDepth 100000 in
theorem one_colon_bad (s:ByteArray) (i:Nat) (w:World) (hi:i<s.size) (hs:s.size<=140737488355328)
 (hc:bt s.data.toList i=58) (hn:bt s.data.toList (i+1)≠45):OneOk s i w:=by
 unfold OneOk
 have hE:oneS (s.data.toList.drop i) i=(tok0,71):=by
  unfold oneS
  rw[drop0,drop1,if_pos hc,if_neg hn]
 have hbt:=bt_of s i hi
 rw[hc] at hbt
 have HB0:=Lib.hid (show Below w.heap.size w (w.alloc (.cells #[.int .i64 0,.string ⟨#[]⟩,.int .i64 0,.int .i64 0,.string ⟨#[]⟩,.int .i64 0] 122)) from balloc (Below.refl _ _) _)
 have HE:=Lib.hid hE
 have q:(bt s.data.toList (i+1) != 45)=true:=by simpa using hn
 have hbt1:∀ h:i+1<s.size,((s[i+1]'h).toNat:Int)=bt s.data.toList (i+1):=bt_of s (i+1)
 clear hE hc hn
 generalize bt s.data.toList (i+1)=nx at *
 by_cases h1:i+1<s.size
 all_goals
  go_enter Tryz.func179,Tryz.ntmps179
  go_wp2_with fail
  refine bodyPost_ret (v:=.tuple #[.agg #[.int .i64 0,.string ⟨#[]⟩,.int .i64 0,.int .i64 0,.string ⟨#[]⟩,.int .i64 0],.int .i64 71]) (by simp [results,Tryz.results179,go_sem, *]) rfl ⟨by rw[HE.out];rfl,HB0.out⟩
set_option maxHeartbeats 8000000 in
set_option maxRecDepth 100000 in
theorem one_minus_mark (s:ByteArray) (i:Nat) (w:World) (hi:i<s.size) (hs:s.size<=140737488355328)
 (hc:bt s.data.toList i=45) (hn:digB (bt s.data.toList (i+1))=false):OneOk s i w:=by
 unfold OneOk
 have hE:oneS (s.data.toList.drop i) i=(⟨3,(s.extract i (i+1)).data.toList,0,0,[],i⟩,0):=by
  unfold oneS
  rw[drop0,drop1,if_neg (by omega),if_neg (by
   have:digB (bt s.data.toList i)=false:=by rw[hc];rfl
   rw[this,hn];simp;omega),if_pos (.inl hc),take_extract]
 have hbt:=bt_of s i hi
 rw[hc] at hbt
 have HB0:=Lib.hid (show Below w.heap.size w (w.alloc (.cells #[.int .i64 3,.string (s.extract i (i+1)),.int .i64 0,.int .i64 0,.string ⟨#[]⟩,.int .i64 i] 122)) from balloc (Below.refl _ _) _)
 have hle:(i:Int)+1<=s.size:=by omega
 have HE:=Lib.hid hE
 have hbt1:∀ h:i+1<s.size,((s[i+1]'h).toNat:Int)=bt s.data.toList (i+1):=bt_of s (i+1)
 clear hE hc
 generalize bt s.data.toList (i+1)=nx at *
 by_cases h1:i+1<s.size
 ·have hx:=hbt1 h1
  clear hbt1
  go_enter Tryz.func179,Tryz.ntmps179
  go_wp2_with (go_at_call 208;refine (lexDigit_any _ _).mono ?_;rintro e w' ⟨rfl,rfl⟩)
  refine bodyPost_ret (v:=.tuple #[.agg #[.int .i64 3,.string (s.extract i (i+1)),.int .i64 0,.int .i64 0,.string ⟨#[]⟩,.int .i64 i],.int .i64 0]) (by simp [results,Tryz.results179,go_sem, *]) rfl ⟨by rw[HE.out];rfl,HB0.out⟩
 ·have hd0:digB 0=false:=rfl
  clear hbt1
  go_enter Tryz.func179,Tryz.ntmps179
  go_wp2_with (go_at_call 208;refine (lexDigit_any _ _).mono ?_;rintro e w' ⟨rfl,rfl⟩)
  refine bodyPost_ret (v:=.tuple #[.agg #[.int .i64 3,.string (s.extract i (i+1)),.int .i64 0,.int .i64 0,.string ⟨#[]⟩,.int .i64 i],.int .i64 0]) (by simp [results,Tryz.results179,go_sem, *]) rfl ⟨by rw[HE.out];rfl,HB0.out⟩
set_option maxHeartbeats 8000000 in
set_option maxRecDepth 100000 in
theorem one_minus_lit (s:ByteArray) (i:Nat) (w:World) (hi:i<s.size) (hs:s.size<=140737488355328) (hg:Glob w)
 (hc:bt s.data.toList i=45) (hn:digB (bt s.data.toList (i+1))=true):OneOk s i w:=by
 unfold OneOk
 have hE:oneS (s.data.toList.drop i) i=litS (s.data.toList.drop i) i:=by
  unfold oneS
  rw[drop0,drop1,if_neg (by omega),if_pos (.inr (.inr ⟨hc,hn⟩))]
 have h1:i+1<s.size:=by
  rcases Nat.lt_or_ge (i+1) s.size with h | h
  ·exact h
  ·rw[bt_past (show s.data.toList.length<=i+1 from h)] at hn;simp [digB] at hn
 have hbt:=bt_of s i hi
 have hbt1:=bt_of s (i+1) h1
 rw[hc] at hbt
 have HB0:=Lib.hid (show Below w.heap.size w (w.alloc (.cells #[.int .i64 0,.string ⟨#[]⟩,.int .i64 0,.int .i64 0,.string ⟨#[]⟩,.int .i64 0] 122)) from balloc (Below.refl _ _) _)
 have HLT:=Lib.hid (fun W (hG:Glob W)=>literal_any s i W hi hs hG)
 rw[hE]
 have HG:=Lib.hid hg
 clear hE hc hg
 generalize bt s.data.toList (i+1)=nx at *
 generalize litS (s.data.toList.drop i) i=r at *
 obtain⟨⟨k,x,vk,vn,vt,p⟩,e0⟩:=r
 unfold Tok.v at *
 simp only at *
 go_enter Tryz.func179,Tryz.ntmps179
 go_wp2_with (go_at_call 208;refine (lexDigit_any _ _).mono ?_;rintro e w' ⟨rfl,rfl⟩)
 refine (HLT.out _ (HG.out.below HB0.out)).mono ?_
 rintro e w1 ⟨rfl,hb1⟩
 have hblk1:=(Blk.new w 122 #[.int .i64 0,.string ⟨#[]⟩,.int .i64 0,.int .i64 0,.string ⟨#[]⟩,.int .i64 0]).below hb1 (by simp)
 have hb1':=HB0.out.trans (hb1.mono (by simp))
 have HBLK:=Lib.hid hblk1
 clear hblk1 hb1
 go_wp2_with (refine wpList_store_blk rfl 122 _ _ rfl w.heap.size 122 _ _ rfl rfl HBLK.out (by kernel_rfl) rfl (by simp [Value.oneCell']) ?_)
 intro w2 hb2 hm2 hz2
 have hB2:=Mod.own hb1' hm2 (Nat.le_refl _)
 have r0:=hb2.cell 0
 have r1:=hb2.cell 1
 have r2:=hb2.cell 2
 have r3:=hb2.cell 3
 have r4:=hb2.cell 4
 have r5:=hb2.cell 5
 have HB2:=Lib.hid hB2
 clear hb2 hm2 hz2 hB2 hb1'
 simp only[List.getElem?_toArray,List.getElem?_cons_zero,List.getElem?_cons_succ] at r0 r1 r2 r3 r4 r5
 go_wp2_with fail
 refine bodyPost_ret (v:=.tuple #[.agg #[.int .i64 k,.string ⟨x.toArray⟩,.int .i64 vk,.int .i64 vn,.string ⟨vt.toArray⟩,.int .i64 p],.int .i64 e0]) (by simp [results,Tryz.results179,go_sem, *]) rfl ⟨rfl,HB2.out⟩
theorem dig_cases {c:Int} (h:digB c=true):c=48∨c=49∨c=50∨c=51∨c=52∨c=53∨c=54∨c=55∨c=56∨c=57:=by
 simp only[digB,decide_eq_true_eq] at h
 omega
set_option maxHeartbeats 16000000 in
set_option maxRecDepth 100000 in
theorem one_lit (s:ByteArray) (i:Nat) (w:World) (hi:i<s.size) (hs:s.size<=140737488355328) (hg:Glob w)
 (hc:bt s.data.toList i=34∨digB (bt s.data.toList i)=true):OneOk s i w:=by
 unfold OneOk
 have hE:oneS (s.data.toList.drop i) i=litS (s.data.toList.drop i) i:=by
  unfold oneS
  rw[drop0,drop1,if_neg (by
   intro h
   rw[h] at hc
   simp [digB] at hc),if_pos (by
   rcases hc with h | h
   ·exact .inl h
   ·exact .inr (.inl h))]
 have hbt:=bt_of s i hi
 have hbt1:∀ h:i+1<s.size,((s[i+1]'h).toNat:Int)=bt s.data.toList (i+1):=bt_of s (i+1)
 have HB0:=Lib.hid (show Below w.heap.size w (w.alloc (.cells #[.int .i64 0,.string ⟨#[]⟩,.int .i64 0,.int .i64 0,.string ⟨#[]⟩,.int .i64 0] 122)) from balloc (Below.refl _ _) _)
 have HLT:=Lib.hid (fun W (hG:Glob W)=>literal_any s i W hi hs hG)
 rw[hE]
 have HG:=Lib.hid hg
 clear hE hg
 have hcs:bt s.data.toList i=34∨bt s.data.toList i=48∨bt s.data.toList i=49∨bt s.data.toList i=50∨bt s.data.toList i=51∨bt s.data.toList i=52∨bt s.data.toList i=53∨bt s.data.toList i=54∨bt s.data.toList i=55∨bt s.data.toList i=56∨bt s.data.toList i=57:=by
  rcases hc with h | h
  ·exact .inl h
  ·exact .inr (dig_cases h)
 clear hc
 generalize bt s.data.toList (i+1)=nx at *
 generalize litS (s.data.toList.drop i) i=r at *
 obtain⟨⟨k,x,vk,vn,vt,p⟩,e0⟩:=r
 unfold Tok.v at *
 simp only at *
 by_cases h1:i+1<s.size
 all_goals
  have h1':=h1
  rcases hcs with h | h | h | h | h | h | h | h | h | h | h
 all_goals
  rw[h] at hbt
  clear h
  go_enter Tryz.func179,Tryz.ntmps179
  go_wp2_with fail
  refine (HLT.out _ (HG.out.below HB0.out)).mono ?_
  rintro e w1 ⟨rfl,hb1⟩
  have hblk1:=(Blk.new w 122 #[.int .i64 0,.string ⟨#[]⟩,.int .i64 0,.int .i64 0,.string ⟨#[]⟩,.int .i64 0]).below hb1 (by simp)
  have hb1':=HB0.out.trans (hb1.mono (by simp))
  have HBLK:=Lib.hid hblk1
  clear hblk1 hb1
  go_wp2_with (refine wpList_store_blk rfl 122 _ _ rfl w.heap.size 122 _ _ rfl rfl HBLK.out (by kernel_rfl) rfl (by simp [Value.oneCell']) ?_)
  intro w2 hb2 hm2 hz2
  have hB2:=Mod.own hb1' hm2 (Nat.le_refl _)
  have r0:=hb2.cell 0
  have r1:=hb2.cell 1
  have r2:=hb2.cell 2
  have r3:=hb2.cell 3
  have r4:=hb2.cell 4
  have r5:=hb2.cell 5
  have HB2:=Lib.hid hB2
  clear hb2 hm2 hz2 hB2 hb1'
  simp only[List.getElem?_toArray,List.getElem?_cons_zero,List.getElem?_cons_succ] at r0 r1 r2 r3 r4 r5
  go_wp2_with fail
  refine bodyPost_ret (v:=.tuple #[.agg #[.int .i64 k,.string ⟨x.toArray⟩,.int .i64 vk,.int .i64 vn,.string ⟨vt.toArray⟩,.int .i64 p],.int .i64 e0]) (by simp [results,Tryz.results179,go_sem, *]) rfl ⟨rfl,HB2.out⟩
structure Far (c:Int):Prop where
 a0:(c == 58)=false
 a1:(c == 45)=false
 a2:(c == 40)=false
 a3:(c == 41)=false
 a4:(c == 44)=false
 a5:(c == 43)=false
 a6:(c == 34)=false
 b0:(c == 48)=false
 b1:(c == 49)=false
 b2:(c == 50)=false
 b3:(c == 51)=false
 b4:(c == 52)=false
 b5:(c == 53)=false
 b6:(c == 54)=false
 b7:(c == 55)=false
 b8:(c == 56)=false
 b9:(c == 57)=false
theorem far_of {c:Int} (h:c≠58/\c≠45/\c≠40/\c≠41/\c≠44/\c≠43/\c≠34/\digB c=false):Far c:=by
 obtain⟨h0,h1,h2,h3,h4,h5,h6,h7⟩:=h
 simp only[digB,decide_eq_false_iff_not] at h7
 constructor<;>(rw[beq_eq_false_iff_ne];omega)
set_option maxHeartbeats 16000000 in
set_option maxRecDepth 100000 in
theorem one_other (s:ByteArray) (i:Nat) (w:World) (hi:i<s.size) (hs:s.size<=140737488355328)
 (hf:bt s.data.toList i≠58/\bt s.data.toList i≠45/\bt s.data.toList i≠40/\bt s.data.toList i≠41/\bt s.data.toList i≠44/\bt s.data.toList i≠43/\bt s.data.toList i≠34/\digB (bt s.data.toList i)=false)
 (hl:letB (bt s.data.toList i)=false):OneOk s i w:=by
 unfold OneOk
 have hE:oneS (s.data.toList.drop i) i=(tok0,71):=by
  obtain⟨h0,h1,h2,h3,h4,h5,h6,h7⟩:=hf
  unfold oneS
  rw[drop0,drop1,if_neg h0,if_neg (by rw[h7];simp;omega),if_neg (by omega),hl]
  rfl
 obtain⟨a0,a1,a2,a3,a4,a5,a6,b0,b1,b2,b3,b4,b5,b6,b7,b8,b9⟩:=far_of hf
 have hbt:=bt_of s i hi
 have hbt1:∀ h:i+1<s.size,((s[i+1]'h).toNat:Int)=bt s.data.toList (i+1):=bt_of s (i+1)
 have HB0:=Lib.hid (show Below w.heap.size w (w.alloc (.cells #[.int .i64 0,.string ⟨#[]⟩,.int .i64 0,.int .i64 0,.string ⟨#[]⟩,.int .i64 0] 122)) from balloc (Below.refl _ _) _)
 have HE:=Lib.hid hE
 clear hE hf
 generalize bt s.data.toList (i+1)=nx at *
 generalize bt s.data.toList i=c at *
 by_cases h1:i+1<s.size
 all_goals
  go_enter Tryz.func179,Tryz.ntmps179
  go_wp2_with (go_at_call 152;refine (isLetter_any _ _).mono ?_;rintro e w' ⟨rfl,rfl⟩)
  refine bodyPost_ret (v:=.tuple #[.agg #[.int .i64 0,.string ⟨#[]⟩,.int .i64 0,.int .i64 0,.string ⟨#[]⟩,.int .i64 0],.int .i64 71]) (by simp [results,Tryz.results179,go_sem, *]) rfl ⟨by rw[HE.out];rfl,HB0.out⟩
theorem let_far {c:Int} (h:letB c=true):c≠58/\c≠45/\c≠40/\c≠41/\c≠44/\c≠43/\c≠34/\digB c=false:=by
 simp only[letB,digB,decide_eq_true_eq,decide_eq_false_iff_not] at h ⊢
 omega
set_option maxHeartbeats 16000000 in
set_option maxRecDepth 100000 in
theorem one_name_walk (s:ByteArray) (i:Nat) (w:World) (hi:i<s.size) (hs:s.size<=140737488355328)
 (hl:letB (bt s.data.toList i)=true):OneOk s i w:=by
 unfold OneOk
 have hf:=let_far hl
 have hE:oneS (s.data.toList.drop i) i=if 16<nameRun (s.data.toList.drop i) then (tok0,72) else (⟨1,(s.extract i (i+nameRun (s.data.toList.drop i))).data.toList,0,0,[],i⟩,0):=by
  obtain⟨h0,h1,h2,h3,h4,h5,h6,h7⟩:=hf
  unfold oneS
  rw[drop0,drop1,if_neg h0,if_neg (by rw[h7];simp;omega),if_neg (by omega),hl,if_pos rfl,take_extract]
 obtain⟨a0,a1,a2,a3,a4,a5,a6,b0,b1,b2,b3,b4,b5,b6,b7,b8,b9⟩:=far_of hf
 have hbt:=bt_of s i hi
 have hbt1:∀ h:i+1<s.size,((s[i+1]'h).toNat:Int)=bt s.data.toList (i+1):=bt_of s (i+1)
 have hne:=nameEnd_any s i
 have hnl:=nameRun_le (s.data.toList.drop i)
 rw[List.length_drop,show s.data.toList.length=s.size from rfl] at hnl
 generalize nameRun (s.data.toList.drop i)=n at *
 have HNE:=Lib.hid hne
 clear hf hne
 generalize bt s.data.toList (i+1)=nx at *
 generalize bt s.data.toList i=c at *
 have hin:(i:Int)+(n:Int)<=s.size:=by omega
 have hin2:(i:Int)<=(i:Int)+(n:Int):=by omega
 have htn:((i:Int)+(n:Int)).toNat=i+n:=by omega
 by_cases h16:16<n
 ·rw[if_pos h16] at hE
  have HB0:=Lib.hid (show Below w.heap.size w (w.alloc (.cells #[.int .i64 0,.string ⟨#[]⟩,.int .i64 0,.int .i64 0,.string ⟨#[]⟩,.int .i64 0] 122)) from balloc (Below.refl _ _) _)
  have HE:=Lib.hid hE
  have h17:(16:Int)<(i:Int)+(n:Int) - (i:Int):=by omega
  clear hE
  have h1:i+1<s.size:=by omega
  go_enter Tryz.func179,Tryz.ntmps179
  go_wp2_with (first | (go_at_call 152;refine (isLetter_any _ _).mono ?_;rintro e w' ⟨rfl,rfl⟩) | (go_at_call 153;refine (HNE.out _ (by omega) (by omega)).mono ?_;rintro e w' ⟨rfl,rfl⟩))
  refine bodyPost_ret (v:=.tuple #[.agg #[.int .i64 0,.string ⟨#[]⟩,.int .i64 0,.int .i64 0,.string ⟨#[]⟩,.int .i64 0],.int .i64 72]) (by simp [results,Tryz.results179,go_sem, *]) rfl ⟨by rw[HE.out];rfl,HB0.out⟩
 ·rw[if_neg h16] at hE
  have HB0:=Lib.hid (show Below w.heap.size w (w.alloc (.cells #[.int .i64 1,.string (s.extract i (i+n)),.int .i64 0,.int .i64 0,.string ⟨#[]⟩,.int .i64 i] 122)) from balloc (Below.refl _ _) _)
  have HE:=Lib.hid hE
  have h17:(i:Int)+(n:Int) - (i:Int)<=16:=by omega
  clear hE
  by_cases h1:i+1<s.size
  all_goals
   go_enter Tryz.func179,Tryz.ntmps179
   go_wp2_with (first | (go_at_call 152;refine (isLetter_any _ _).mono ?_;rintro e w' ⟨rfl,rfl⟩) | (go_at_call 153;refine (HNE.out _ (by omega) (by omega)).mono ?_;rintro e w' ⟨rfl,rfl⟩))
   refine bodyPost_ret (v:=.tuple #[.agg #[.int .i64 1,.string (s.extract i (i+n)),.int .i64 0,.int .i64 0,.string ⟨#[]⟩,.int .i64 i],.int .i64 0]) (by simp [results,Tryz.results179,go_sem, *]) rfl ⟨by rw[HE.out];rfl,HB0.out⟩
theorem one_any (s:ByteArray) (i:Nat) (w:World) (hi:i<s.size) (hs:s.size<=140737488355328) (hg:Glob w):OneOk s i w:=by
 by_cases h58:bt s.data.toList i=58
 ·by_cases hn:bt s.data.toList (i+1)=45
  ·exact one_colon_ok s i w hi hs h58 hn
  ·exact one_colon_bad s i w hi hs h58 hn
 by_cases h45:bt s.data.toList i=45
 ·cases hd:digB (bt s.data.toList (i+1)) with
  | true=>exact one_minus_lit s i w hi hs hg h45 hd
  | false=>exact one_minus_mark s i w hi hs h45 hd
 by_cases hm:bt s.data.toList i=40∨bt s.data.toList i=41∨bt s.data.toList i=44∨bt s.data.toList i=43
 ·exact one_mark s i w hi hs hg hm
 by_cases hl:bt s.data.toList i=34∨digB (bt s.data.toList i)=true
 ·exact one_lit s i w hi hs hg hl
 cases hlt:letB (bt s.data.toList i) with
 | true=>exact one_name_walk s i w hi hs hlt
 | false =>
   refine one_other s i w hi hs ⟨h58,h45,fun h=>hm (.inl h),fun h=>hm (.inr (.inl h)),fun h=>hm (.inr (.inr (.inl h))),fun h=>hm (.inr (.inr (.inr h))),fun h=>hl (.inl h),?_⟩ hlt
   cases hd:digB (bt s.data.toList i) with
   | true=>exact absurd (.inr hd) hl
   | false=>rfl
theorem Tryz.infoTok:(Tryz.prog.info? 122).map (fun i=>(i.zero,i.size,i.bytes))=some (some (.agg #[.int .i64 0,.string ⟨#[]⟩,.int .i64 0,.int .i64 0,.string ⟨#[]⟩,.int .i64 0]),6,64):=by kernel_rfl
set_option maxHeartbeats 8000000 in
set_option maxRecDepth 100000 in
theorem isName_any (s:ByteArray) (w:World) (hs:s.size<=140737488355328) :
 Calls Tryz.prog 71 #[.string s] w fun e w'=>e=.returned (.bool (isNameB s.data.toList))/\w=w':=by
 have hsl:s.data.toList.length=s.size:=rfl
 by_cases h0:s.size=0
 ·have hd:s.data.toList=[]:=List.length_eq_zero_iff.1 (by omega)
  have hE:isNameB s.data.toList=false:=by unfold isNameB;simp [hd]
  obtain rfl:s=ByteArray.empty:=by
   apply ByteArray.ext
   exact Array.size_eq_zero_iff.1 h0
  have HE:=Lib.hid hE
  clear hE hsl hd
  go_enter Tryz.func71,Tryz.ntmps71
  go_wp2_with fail
  go_ret
  exact⟨by rw[HE.out];rfl,rfl⟩
 ·have h0':0<s.size:=by omega
  have hbt:=bt_of s 0 h0'
  have hne:=nameEnd_any s 0 w (by omega) (by omega)
  rw[List.drop_zero,Nat.zero_add] at hne
  have hE:isNameB s.data.toList=(letB (bt s.data.toList 0) && (decide (nameRun s.data.toList=s.size) && decide (s.size<=16))):=by
   unfold isNameB
   rw[hsl]
   have:s.data.toList≠[]:=fun e=>by rw[e] at hsl;simp at hsl;omega
   by_cases a:letB (bt s.data.toList 0)=true<;>by_cases b:nameRun s.data.toList=s.size<;>by_cases c:s.size<=16<;>simp [this,a,b,c]
  rw[hE]
  have hem:s.toList.isEmpty=false:=by
   rw[ByteArray.toList_eq]
   cases h:s.data.toList with
   | nil=>rw[h] at hsl;simp at hsl;omega
   | cons _ _=>rfl
  have HNE:=Lib.hid hne
  clear hE hne hsl
  generalize nameRun s.data.toList=n at *
  have q16:decide ((s.size:Int)<=16)=decide (s.size<=16):=decide_eq_decide.2 (by omega)
  cases hl:letB (bt s.data.toList 0) with
  | false =>
    go_enter Tryz.func71,Tryz.ntmps71
    go_wp2_with (go_at_call 152;refine (isLetter_any _ _).mono ?_;rintro e w' ⟨rfl,rfl⟩)
    go_ret
    exact⟨rfl,rfl⟩
  | true =>
    by_cases hn:n=s.size
    ·have qn:((n:Int) == (s.size:Int))=true:=by simp [hn]
     rw[decide_eq_true hn]
     clear hn
     go_enter Tryz.func71,Tryz.ntmps71
     go_wp2_with (first | (go_at_call 152;refine (isLetter_any _ _).mono ?_;rintro e w' ⟨rfl,rfl⟩) | (go_at_call 153;refine HNE.out.mono ?_;rintro e w' ⟨rfl,rfl⟩))
     go_ret
     exact⟨rfl,rfl⟩
    ·have qn:((n:Int) == (s.size:Int))=false:=by rw[beq_eq_false_iff_ne];omega
     rw[decide_eq_false hn]
     clear hn
     go_enter Tryz.func71,Tryz.ntmps71
     go_wp2_with (first | (go_at_call 152;refine (isLetter_any _ _).mono ?_;rintro e w' ⟨rfl,rfl⟩) | (go_at_call 153;refine HNE.out.mono ?_;rintro e w' ⟨rfl,rfl⟩))
     go_ret
     exact⟨rfl,rfl⟩
def TokPost (e:TypeId) (w:World) (R:LxR) (x:Ending) (w':World):Prop :=
 ∃ a cap,x=.returned (.tuple #[.slice a R.ts.length cap,.int .i64 R.at_,.int .i64 R.e])/\w'.ownsRow w.heap.size e 6 (.slice a R.ts.length cap) R.ts.length (tcells R.ts)/\Below w.heap.size w w'
theorem tok_one (t:Tok):∀ u∈t.cells,u.oneCell'=true:=by
 intro u hu
 simp [Tok.cells] at hu
 rcases hu with rfl | rfl | rfl | rfl | rfl | rfl<;>rfl
theorem blk_new1 (w:World) (o:Obj) (t:TypeId) (cs:Array Value):Blk ((w.alloc o).alloc (.cells cs t)) (w.heap.size+1) t cs:=by
 have h:=Blk.new (w.alloc o) t cs
 simpa using h
theorem spB_of {c:Int} (h:c=32∨c=9):spB c=true:=by unfold spB;exact decide_eq_true h
theorem spB_not {c:Int} (h:¬ (c=32∨c=9)):spB c=false:=by unfold spB;exact decide_eq_false h
set_option maxHeartbeats 16000000 in
set_option maxRecDepth 100000 in
theorem tokens_any (s:ByteArray) (w:World) (hs:s.size<=281474976710656) (hg:Glob w) :
 Calls Tryz.prog 103 #[.string s] w (TokPost 122 w (lexR s.data.toList)):=by
 obtain⟨i0,hi0,hz0,hz1,hz2⟩:=info_parts Tryz.infoTok
 have hsl:s.data.toList.length=s.size:=rfl
 by_cases hlong:16384<s.size
 ·have hE:lexR s.data.toList=⟨[],0,70⟩:=by unfold lexR;rw[if_pos (by omega)]
  rw[hE]
  clear hE
  go_enter Tryz.func103,Tryz.ntmps103
  go_wp2_with fail
  go_ret3
  exact⟨none,0,rfl,World.ownsRow_nil _ _ _ _,Below.refl _ _⟩
 have hE:(LX (s.data.toList.drop 0) 0).behind []=lexR s.data.toList:=by
  rw[behind_nil,List.drop_zero];unfold lexR;rw[if_neg (by omega)]
 have hone:=fun i W=>one_any s i W
 unfold OneOk at hone
 have hlg:s.size<=16384:=by omega
 have HONE:=Lib.hid hone
 have HSL:=Lib.hid hsl
 have HE:=Lib.hid hE
 have HG:=Lib.hid hg
 clear hone hsl hE hg hlong
 generalize lexR s.data.toList=R at *
 generalize hL:s.data.toList=l at *
 have HL:=Lib.hid hL
 clear hL
 go_enter Tryz.func103,Tryz.ntmps103
 go_wp2_with fail
 go_loopw [5,2] (fun ix v wr=>∃ (k:Nat) (acc:List Tok) (a:Option Addr) (cap:Nat),k<=s.size/\ix=.int .i64 k/\v=.slice a acc.length cap/\wr.ownsRow w.heap.size 122 6 (.slice a acc.length cap) acc.length (tcells acc)/\Below w.heap.size w wr/\acc.length<=k/\(LX (l.drop k) k).behind acc=R) (fun ix _ _=>s.size - (intOf ix).toNat)
 case atStart =>
  exact⟨0,[],none,0,Nat.zero_le _,rfl,rfl,World.ownsRow_nil _ _ _ _,Below.refl _ _,by simp,HE.out⟩
 case round =>
  obtain⟨k,acc,a,cap,hk,rfl,rfl,hown,hbel,hacc,hrel⟩:=hrel
  have HR:=Lib.hid hrel
  have HO:=Lib.hid hown
  have HBE:=Lib.hid hbel
  have hsz:=hbel.size
  clear hrel hown hbel
  by_cases hlt:k<s.size
  ·have hbt:=bt_of s k hlt
   rw[HL.out] at hbt
   have hkl:k<l.length:=by have:=HSL.out;omega
   by_cases h35:bt l k=35
   ·have HEE:Hid (R=⟨acc++[endTok s.size],0,0⟩):=Lib.hid (by
     rw[<-HR.out,behind_end acc (.inr (by rw[drop0];exact h35))]
     rw[List.length_drop,HSL.out,Nat.add_sub_cancel' hk])
    rw[h35] at hbt
    clear h35
    go_wp2_with (at_builtin;refine wpList_append_lies _ rfl (.tmp 52) (.tmp 56) 176 rfl w.heap.size 122 i0 (.agg #[.int .i64 0,.string ⟨#[]⟩,.int .i64 0,.int .i64 0,.string ⟨#[]⟩,.int .i64 0]) 6 64 Tryz.underlying176 hi0 hz0 hz1 hz2 rfl (by decide) (.slice a acc.length cap) acc.length _ rfl (HO.out.alloc _) ⟨_,0,none⟩ 1 1 (endTok s.size).cells rfl rfl (World.news_of_block (Blk.new _ _ _)) (tok_one _) (by decide) ?c3 ?c5 ?c4 _ rfl ?_)
    case c3=>unfold maxLen;omega
    case c5=>omega
    case c4=>simp;omega
    intro g cap1 w2 hown2 hgrow2 hat2 hlt2
    have hb2:Below w.heap.size w w2:=(balloc HBE.out _).grown hgrow2 (by simp;omega) (fun q hq=>(HO.out.lt q hq).1)
    go_wp2_with fail
    go_ret3
    rw[HEE.out]
    refine⟨some ⟨g,0,none⟩,cap1,by simp,?_,hb2⟩
    rw[show (acc++[endTok s.size]).length=acc.length+1 by simp,tcells_snoc]
    exact hown2
   ·have q35:(bt l k != 35)=true:=by simpa using h35
    have hne:¬ (l.drop k=[]∨bt (l.drop k) 0=35):=by
     rw[drop0]
     exact fun e=>e.elim (drop_ne hkl) h35
    by_cases hsp:bt l k=32∨bt l k=9
    ·have hb:=LX_blank (p:=k) hne (by rw[drop0];exact spB_of hsp)
     rw[List.drop_drop] at hb
     rw[hb] at HR
     clear h35 hne hb
     rcases hsp with h | h
     all_goals
      rw[h] at hbt
      clear h q35
      go_wp2_with fail
      go_round
      case rel=>exact⟨k+1,acc,a,cap,by omega,by go_num,rfl,HO.out,HBE.out,by omega,HR.out⟩
      case measure=>simp [intOf];omega
    ·have hspf:=spB_not hsp
     rw[<-drop0] at hspf
     have q32:(bt l k == 32)=false:=by rw[beq_eq_false_iff_ne];exact fun h=>hsp (.inl h)
     have q9:(bt l k == 9)=false:=by rw[beq_eq_false_iff_ne];exact fun h=>hsp (.inr h)
     have hbo:=HONE.out k wr hlt (by omega) (HG.out.below HBE.out)
     have hls:R=if (oneS (l.drop k) k).2=0 then (LX (l.drop (k+(oneS (l.drop k) k).1.x.length)) (k+(oneS (l.drop k) k).1.x.length)).behind (acc++[(oneS (l.drop k) k).1]) else ⟨[],k,(oneS (l.drop k) k).2⟩:=by
      rw[<-HR.out]
      split
      ·rename_i hz
       rw[behind_one acc hne hspf hz,List.drop_drop]
      ·rename_i hz
       exact behind_bad acc hne hspf hz
     have hlen:=fun hz=>one_len (r:=l.drop k) (p:=k) hz (drop_ne hkl)
     rw[List.length_drop,HSL.out] at hlen
     clear h35 hsp hspf hne
     generalize oneS (l.drop k) k=o at *
     obtain⟨⟨tk,tx,tvk,tvn,tvt,tp⟩,e0⟩:=o
     unfold Tok.v at hbo
     simp only at hls hlen hbo
     have HBO:=Lib.hid hbo
     clear hbo HONE HR
     by_cases he:e0=0
     ·subst he
      obtain⟨l1,htx,l3⟩:=hlen rfl
      clear htx
      rw[if_pos rfl] at hls
      have HLS:=Lib.hid hls
      clear hls hlen
      go_wp2_with fail
      refine HBO.out.mono ?_
      rintro e w1 ⟨rfl,hb1⟩
      have hsz1:=hb1.size
      have hb1':=HBE.out.trans (hb1.mono hsz)
      have hown1:=(Mod.ofBelow (F:=fun _=>False) hb1).ownsRow HO.out (fun _ _ f=>f)
      have HO1:=Lib.hid hown1
      have HB1:=Lib.hid hb1'
      clear hown1 hb1 hb1'
      go_wp2_with (at_builtin;refine wpList_append_lies _ rfl (.tmp 43) (.tmp 45) 176 rfl w.heap.size 122 i0 (.agg #[.int .i64 0,.string ⟨#[]⟩,.int .i64 0,.int .i64 0,.string ⟨#[]⟩,.int .i64 0]) 6 64 Tryz.underlying176 hi0 hz0 hz1 hz2 rfl (by decide) (.slice a acc.length cap) acc.length _ rfl ((HO1.out.alloc _).alloc _) ⟨w1.heap.size+1,0,none⟩ 1 1 (⟨tk,tx,tvk,tvn,tvt,tp⟩:Tok).cells rfl rfl (World.news_of_block (blk_new1 _ _ _ _)) (tok_one _) (by decide) ?c3 ?c5 ?c4 _ rfl ?_)
      case c3=>unfold maxLen;omega
      case c5=>omega
      case c4=>simp;omega
      intro g cap1 w2 hown2 hgrow2 hat2 hlt2
      have hb2:Below w.heap.size w w2:=(balloc (balloc HB1.out _) _).grown hgrow2 (by simp;omega) (fun q hq=>(HO1.out.lt q hq).1)
      have hblk:=(((Blk.new w1 122 #[.int .i64 tk,.string ⟨tx.toArray⟩,.int .i64 tvk,.int .i64 tvn,.string ⟨tvt.toArray⟩,.int .i64 tp]).alloc (.cells #[.int .i64 tk,.string ⟨tx.toArray⟩,.int .i64 tvk,.int .i64 tvn,.string ⟨tvt.toArray⟩,.int .i64 tp] 122)).grown hgrow2 (fun e=>by have:=(HO1.out.lt _ e.symm).2;omega))
      have r1:=hblk.cell 1
      simp only[List.getElem?_toArray,List.getElem?_cons_zero,List.getElem?_cons_succ] at r1
      have HO2:=Lib.hid hown2
      clear hown2 hblk
      go_wp2_with fail
      go_round
      case rel =>
       refine⟨k+tx.length,acc++[⟨tk,tx,tvk,tvn,tvt,tp⟩],some ⟨g,0,none⟩,cap1,by omega,?_,by simp,?_,hb2,by simp;omega,HLS.out.symm⟩
       ·go_num
       ·rw[show (acc++[(⟨tk,tx,tvk,tvn,tvt,tp⟩:Tok)]).length=acc.length+1 by simp,tcells_snoc]
        exact HO2.out
      case measure=>simp [intOf];omega
     ·have q0:(e0 != 0)=true:=by simpa using he
      rw[if_neg he] at hls
      have HLS:=Lib.hid hls
      clear hls hlen he
      go_wp2_with fail
      refine HBO.out.mono ?_
      rintro e w1 ⟨rfl,hb1⟩
      have hb1':=HBE.out.trans (hb1.mono hsz)
      have HB1:=Lib.hid (balloc hb1' (.cells #[.int .i64 tk,.string ⟨tx.toArray⟩,.int .i64 tvk,.int .i64 tvn,.string ⟨tvt.toArray⟩,.int .i64 tp] 122))
      clear hb1 hb1'
      go_wp2_with fail
      go_ret3
      rw[HLS.out]
      exact⟨none,0,rfl,World.ownsRow_nil _ _ _ _,HB1.out⟩
  ·have hke:k=s.size:=by omega
   subst hke
   have HEE:Hid (R=⟨acc++[endTok s.size],0,0⟩):=Lib.hid (by
    rw[<-HR.out,behind_end acc (.inl (List.drop_of_length_le (by have:=HSL.out;omega)))]
    rw[List.length_drop,HSL.out,Nat.sub_self,Nat.add_zero])
   go_wp2_with (at_builtin;refine wpList_append_lies _ rfl (.tmp 52) (.tmp 56) 176 rfl w.heap.size 122 i0 (.agg #[.int .i64 0,.string ⟨#[]⟩,.int .i64 0,.int .i64 0,.string ⟨#[]⟩,.int .i64 0]) 6 64 Tryz.underlying176 hi0 hz0 hz1 hz2 rfl (by decide) (.slice a acc.length cap) acc.length _ rfl (HO.out.alloc _) ⟨_,0,none⟩ 1 1 (endTok s.size).cells rfl rfl (World.news_of_block (Blk.new _ _ _)) (tok_one _) (by decide) ?c3 ?c5 ?c4 _ rfl ?_)
   case c3=>unfold maxLen;omega
   case c5=>omega
   case c4=>simp;omega
   intro g cap1 w2 hown2 hgrow2 hat2 hlt2
   have hb2:Below w.heap.size w w2:=(balloc HBE.out _).grown hgrow2 (by simp;omega) (fun q hq=>(HO.out.lt q hq).1)
   go_wp2_with fail
   go_ret3
   rw[HEE.out]
   refine⟨some ⟨g,0,none⟩,cap1,by simp,?_,hb2⟩
   rw[show (acc++[endTok s.size]).length=acc.length+1 by simp,tcells_snoc]
   exact hown2
end Go.Proofs.YtgopfpjinohncaaGreatDoor
