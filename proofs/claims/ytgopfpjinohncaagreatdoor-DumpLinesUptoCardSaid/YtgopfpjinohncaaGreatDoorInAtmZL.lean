/- slices.IndexFunc, ContainsFunc at osier/api.Atom, walked, told by the place (printed by idxn.py). slices.IndexFunc, ContainsFunc at osier/api.Term, walked, told by the place (printed by idxn.py). reader.Open, walked, given what Tokens tells. lex.Tokens and reader.Open at lines of letters, blanks and marks alone, walked. -/
import Derived.Test.YtgopfpjinohncaaGreatDoorGbL
import Derived.Test.YtgopfpjinohncaaGreatDoorGaL
import Derived.Test.YtgopfpjinohncaaGreatDoorLcL
import Derived.Shelf.Abstract
namespace Go.Proofs.YtgopfpjinohncaaGreatDoor
open Go.RowKit
set_option linter.unusedVariables false
set_option maxHeartbeats 4000000 in
set_option maxRecDepth 100000 in
theorem indexN_Atm (g:Nat) (lb:Array Value) (eg:∀ args w,(callFunc g args).run Tryz.prog w=.ok (.enter g args) w) (p:Nat->Bool) (w:World) (v:Value) (xs:List (List Value)) (h:RowAt w v 2 xs) (hl:∀ x∈xs,x.length=2)
 (hf:∀ (W:World) (k:Nat) (x:List Value),Below w.heap.size w W->xs[k]? = some x->Calls Tryz.prog g (#[.agg x.toArray]++lb) W fun e W'=>e=.returned (.bool (p k))/\Below W.heap.size W W') :
 Calls Tryz.prog 213 #[v,.func (.func g) #[] lb] w fun e w'=>(∃ q:Int,e=.returned (.int .i64 q)/\decide (0<=q)=(List.range xs.length).any p)/\Below w.heap.size w w':=by
 obtain⟨ad,cap,rfl,hnc,hcm⟩:=h.form
 have hln:=h.len
 have HR:=Lib.hid h
 have HL:=Lib.hid hl
 have HF:=Lib.hid hf
 unfold maxLen at hcm
 generalize hn:xs.length=n at *
 have HN:=Lib.hid hn
 clear h hl hf hn
 go_enter Tryz.func213,Tryz.ntmps213
 go_wp2_with fail
 go_loopw [5,8] (fun _ i wr=>∃ k:Nat,k<=n/\i=.int .i64 k/\Hid (Below w.heap.size w wr)/\Hid (∀ j,j<k->p j=false)) (fun _ i _=>n - (intOf i).toNat)
 case atStart=>exact⟨0,Nat.zero_le _,rfl,Lib.hid (Below.refl _ _),Lib.hid (fun j hj=>by omega)⟩
 case round =>
  obtain⟨k,hk,rfl,HB,HP⟩:=hrel
  by_cases hlt:k<n
  ·obtain⟨x,hx⟩:∃ x,xs[k]? = some x:=⟨xs[k]'(by rw[HN.out];exact hlt),List.getElem?_eq_getElem (by rw[HN.out];exact hlt)⟩
   have hm:x∈xs:=List.mem_of_getElem? hx
   obtain⟨b,off,cap',hv,_,_,hbl,hce⟩:=(HR.out.keep HB.out).get hx
   rw[HN.out] at hv
   simp only[Value.slice.injEq,true_and] at hv
   obtain⟨rfl,rfl⟩:=hv
   obtain⟨e0,e1,rfl⟩:=len2 (HL.out x hm)
   have q0:=hce 0 e0 rfl
   have q1:=hce 1 e1 rfl
   simp only[Nat.add_zero] at q0 q1
   have hcall:=HF.out wr k _ HB.out hx
   clear hce hm hx
   cases hq:p k with
   | true =>
     rw[hq] at hcall
     have HC:=Lib.hid hcall
     have HQ:=Lib.hid hq
     clear hcall hq
     go_wp2_with fail
     refine HC.out.mono ?_
     rintro e w' ⟨rfl,hb'⟩
     have HB':=Lib.hid hb'
     clear hb'
     go_wp2_with fail
     go_ret
     refine⟨⟨k,rfl,?_⟩,HB.out.trans (HB'.out.mono HB.out.size)⟩
     rw[decide_eq_true (Int.natCast_nonneg k)]
     exact (List.any_eq_true.2 ⟨k,List.mem_range.2 hlt,HQ.out⟩).symm
   | false =>
     rw[hq] at hcall
     have HC:=Lib.hid hcall
     have HQ:=Lib.hid hq
     clear hcall hq
     go_wp2_with fail
     refine HC.out.mono ?_
     rintro e w' ⟨rfl,hb'⟩
     have HB':=Lib.hid hb'
     clear hb'
     go_wp2_with fail
     go_roundw
     case rel =>
      refine⟨k+1,by omega,by go_num,Lib.hid (HB.out.trans (HB'.out.mono HB.out.size)),Lib.hid (fun j hj=>?_)⟩
      rcases Nat.lt_or_ge j k with h1 | h1
      ·exact HP.out j h1
      ·obtain rfl:j=k:=by omega
       exact HQ.out
     case measure=>simp [intOf];omega
  ·obtain rfl:k=n:=by omega
   go_wp2_with fail
   go_ret
   refine⟨⟨-1,rfl,?_⟩,HB.out⟩
   rw[show decide ((0:Int) <= -1)=false from by decide]
   refine (List.any_eq_false.2 fun j hj=>?_).symm
   rw[HP.out j (List.mem_range.1 hj)]
   decide
set_option maxHeartbeats 4000000 in
set_option maxRecDepth 100000 in
theorem containsN_Atm (g:Nat) (lb:Array Value) (eg:∀ args w,(callFunc g args).run Tryz.prog w=.ok (.enter g args) w) (p:Nat->Bool) (w:World) (v:Value) (xs:List (List Value)) (h:RowAt w v 2 xs) (hl:∀ x∈xs,x.length=2)
 (hf:∀ (W:World) (k:Nat) (x:List Value),Below w.heap.size w W->xs[k]? = some x->Calls Tryz.prog g (#[.agg x.toArray]++lb) W fun e W'=>e=.returned (.bool (p k))/\Below W.heap.size W W') :
 Calls Tryz.prog 165 #[v,.func (.func g) #[] lb] w fun e w'=>e=.returned (.bool ((List.range xs.length).any p))/\Below w.heap.size w w':=by
 have HI:=Lib.hid (indexN_Atm g lb eg p w v xs h hl hf)
 clear h hl hf
 generalize (List.range xs.length).any p=R at *
 go_enter Tryz.func165,Tryz.ntmps165
 go_wp2_with fail
 refine HI.out.mono ?_
 rintro e w' ⟨⟨q,rfl,hq⟩,hb'⟩
 have HB':=Lib.hid hb'
 clear hb'
 go_wp2_with fail
 go_ret
 exact⟨by first | rfl | simp,HB'.out⟩
set_option maxHeartbeats 4000000 in
set_option maxRecDepth 100000 in
theorem indexN_Trm (g:Nat) (lb:Array Value) (eg:∀ args w,(callFunc g args).run Tryz.prog w=.ok (.enter g args) w) (p:Nat->Bool) (w:World) (v:Value) (xs:List (List Value)) (h:RowAt w v 4 xs) (hl:∀ x∈xs,x.length=4)
 (hf:∀ (W:World) (k:Nat) (x:List Value),Below w.heap.size w W->xs[k]? = some x->Calls Tryz.prog g (#[.agg x.toArray]++lb) W fun e W'=>e=.returned (.bool (p k))/\Below W.heap.size W W') :
 Calls Tryz.prog 216 #[v,.func (.func g) #[] lb] w fun e w'=>(∃ q:Int,e=.returned (.int .i64 q)/\decide (0<=q)=(List.range xs.length).any p)/\Below w.heap.size w w':=by
 obtain⟨ad,cap,rfl,hnc,hcm⟩:=h.form
 have hln:=h.len
 have HR:=Lib.hid h
 have HL:=Lib.hid hl
 have HF:=Lib.hid hf
 unfold maxLen at hcm
 generalize hn:xs.length=n at *
 have HN:=Lib.hid hn
 clear h hl hf hn
 go_enter Tryz.func216,Tryz.ntmps216
 go_wp2_with fail
 go_loopw [5,8] (fun _ i wr=>∃ k:Nat,k<=n/\i=.int .i64 k/\Hid (Below w.heap.size w wr)/\Hid (∀ j,j<k->p j=false)) (fun _ i _=>n - (intOf i).toNat)
 case atStart=>exact⟨0,Nat.zero_le _,rfl,Lib.hid (Below.refl _ _),Lib.hid (fun j hj=>by omega)⟩
 case round =>
  obtain⟨k,hk,rfl,HB,HP⟩:=hrel
  by_cases hlt:k<n
  ·obtain⟨x,hx⟩:∃ x,xs[k]? = some x:=⟨xs[k]'(by rw[HN.out];exact hlt),List.getElem?_eq_getElem (by rw[HN.out];exact hlt)⟩
   have hm:x∈xs:=List.mem_of_getElem? hx
   obtain⟨b,off,cap',hv,_,_,hbl,hce⟩:=(HR.out.keep HB.out).get hx
   rw[HN.out] at hv
   simp only[Value.slice.injEq,true_and] at hv
   obtain⟨rfl,rfl⟩:=hv
   obtain⟨e0,e1,e2,e3,rfl⟩:=len4 (HL.out x hm)
   have q0:=hce 0 e0 rfl
   have q1:=hce 1 e1 rfl
   have q2:=hce 2 e2 rfl
   have q3:=hce 3 e3 rfl
   simp only[Nat.add_zero] at q0 q1 q2 q3
   have hcall:=HF.out wr k _ HB.out hx
   clear hce hm hx
   cases hq:p k with
   | true =>
     rw[hq] at hcall
     have HC:=Lib.hid hcall
     have HQ:=Lib.hid hq
     clear hcall hq
     go_wp2_with fail
     refine HC.out.mono ?_
     rintro e w' ⟨rfl,hb'⟩
     have HB':=Lib.hid hb'
     clear hb'
     go_wp2_with fail
     go_ret
     refine⟨⟨k,rfl,?_⟩,HB.out.trans (HB'.out.mono HB.out.size)⟩
     rw[decide_eq_true (Int.natCast_nonneg k)]
     exact (List.any_eq_true.2 ⟨k,List.mem_range.2 hlt,HQ.out⟩).symm
   | false =>
     rw[hq] at hcall
     have HC:=Lib.hid hcall
     have HQ:=Lib.hid hq
     clear hcall hq
     go_wp2_with fail
     refine HC.out.mono ?_
     rintro e w' ⟨rfl,hb'⟩
     have HB':=Lib.hid hb'
     clear hb'
     go_wp2_with fail
     go_roundw
     case rel =>
      refine⟨k+1,by omega,by go_num,Lib.hid (HB.out.trans (HB'.out.mono HB.out.size)),Lib.hid (fun j hj=>?_)⟩
      rcases Nat.lt_or_ge j k with h1 | h1
      ·exact HP.out j h1
      ·obtain rfl:j=k:=by omega
       exact HQ.out
     case measure=>simp [intOf];omega
  ·obtain rfl:k=n:=by omega
   go_wp2_with fail
   go_ret
   refine⟨⟨-1,rfl,?_⟩,HB.out⟩
   rw[show decide ((0:Int) <= -1)=false from by decide]
   refine (List.any_eq_false.2 fun j hj=>?_).symm
   rw[HP.out j (List.mem_range.1 hj)]
   decide
set_option maxHeartbeats 4000000 in
set_option maxRecDepth 100000 in
theorem containsN_Trm (g:Nat) (lb:Array Value) (eg:∀ args w,(callFunc g args).run Tryz.prog w=.ok (.enter g args) w) (p:Nat->Bool) (w:World) (v:Value) (xs:List (List Value)) (h:RowAt w v 4 xs) (hl:∀ x∈xs,x.length=4)
 (hf:∀ (W:World) (k:Nat) (x:List Value),Below w.heap.size w W->xs[k]? = some x->Calls Tryz.prog g (#[.agg x.toArray]++lb) W fun e W'=>e=.returned (.bool (p k))/\Below W.heap.size W W') :
 Calls Tryz.prog 168 #[v,.func (.func g) #[] lb] w fun e w'=>e=.returned (.bool ((List.range xs.length).any p))/\Below w.heap.size w w':=by
 have HI:=Lib.hid (indexN_Trm g lb eg p w v xs h hl hf)
 clear h hl hf
 generalize (List.range xs.length).any p=R at *
 go_enter Tryz.func168,Tryz.ntmps168
 go_wp2_with fail
 refine HI.out.mono ?_
 rintro e w' ⟨⟨q,rfl,hq⟩,hb'⟩
 have HB':=Lib.hid hb'
 clear hb'
 go_wp2_with fail
 go_ret
 exact⟨by first | rfl | simp,HB'.out⟩
set_option maxHeartbeats 4000000 in
set_option maxRecDepth 100000 in
theorem open_good_of (s:ByteArray) (w:World) (ts:List Tok) (a e0:Int) (he:e0=0) (hen:Ended ts) (hln:ts.length<=100000)
 (ht:Calls Tryz.prog 103 #[.string s] w fun x w'=>∃ ad cap,x=.returned (.tuple #[.slice ad ts.length cap,.int .i64 a,.int .i64 e0])/\w'.ownsRow w.heap.size 122 6 (.slice ad ts.length cap) ts.length (tcells ts)/\Below w.heap.size w w') :
 Calls Tryz.prog 54 #[.string s] w fun e w'=>∃ r vt,e=.returned (.pointer (some ⟨r,0,none⟩))/\w.heap.size<=r/\Rs w' r ts vt/\Below w.heap.size w w':=by
 subst he
 have HT:=Lib.hid ht
 have HE:=Lib.hid hen
 clear ht hen
 go_enter Tryz.func54,Tryz.ntmps54
 go_wp2_with fail
 refine HT.out.mono ?_
 rintro e w1 ⟨ad,cap,rfl,hown,hb⟩
 have HB:=Lib.hid hb
 have HO:=Lib.hid hown
 have hz:=hb.size
 clear hown hb
 go_wp2_with fail
 go_ret
 refine⟨w1.heap.size,_,rfl,hz,⟨ts,0,⟨Blk.new _ _ _,?_,hln⟩,rfl,HE.out⟩,balloc HB.out _⟩
 exact (World.ownsRow.alloc ⟨HO.out.1,(HO.out.2).imp id (fun⟨g,c,cur,h1,h2,h3⟩=>⟨g,c,cur,h1,Nat.zero_le _,h3⟩)⟩ _)
def fewB (c:Int):Bool:=decide (c=32∨c=40∨c=41∨c=44∨c=43) || letB c
def FewB (c:Int):Prop:=c=32∨(c=40∨c=41∨c=44∨c=43)∨letB c=true
theorem few_at {l:List UInt8} (h:l.all (fun c=>fewB c.toNat)=true) {i:Nat} (hi:i<l.length):FewB (bt l i):=by
 have h1:=List.all_eq_true.1 h (l[i]'hi) (List.getElem_mem hi)
 have h2:bt l i=((l[i]'hi).toNat:Int):=by
  unfold bt
  rw[List.getD_eq_getElem?_getD,List.getElem?_eq_getElem hi]
  rfl
 rw[h2]
 unfold fewB at h1
 rw[Bool.or_eq_true,decide_eq_true_eq] at h1
 rcases h1 with h1 | h1
 ·rcases h1 with h1 | h1
  ·exact .inl h1
  ·exact .inr (.inl h1)
 ·exact .inr (.inr h1)
set_option maxHeartbeats 16000000 in
set_option maxRecDepth 100000 in
theorem name_few (s:ByteArray) (i:Nat) (w:World) (hi:i<s.size) (hs:s.size<=140737488355328)
 (hl:letB (bt s.data.toList i)=true) (he:(oneS (s.data.toList.drop i) i).2=0):OneOk s i w:=by
 unfold OneOk
 have hf:=let_far hl
 have hE:oneS (s.data.toList.drop i) i=if 16<nameRun (s.data.toList.drop i) then (tok0,72) else (⟨1,(s.extract i (i+nameRun (s.data.toList.drop i))).data.toList,0,0,[],i⟩,0):=by
  obtain⟨h0,h1,h2,h3,h4,h5,h6,h7⟩:=hf
  unfold oneS
  rw[drop0,drop1,if_neg h0,if_neg (by rw[h7];simp;omega),if_neg (by omega),hl,if_pos rfl,take_extract]
 obtain⟨a0,a1,a2,a3,a4,a5,a6,b0,b1,b2,b3,b4,b5,b6,b7,b8,b9⟩:=far_of hf
 have hbt:=bt_of s i hi
 have hbt1:∀ h:i+1<s.size,((s[i+1]'h).toNat:Int)=bt s.data.toList (i+1):=bt_of s (i+1)
 have hne:=nameEnd_any s i
 have hnl:=nameRun_le (s.data.toList.drop i)
 rw[List.length_drop,show s.data.toList.length=s.size from rfl] at hnl
 generalize nameRun (s.data.toList.drop i)=n at *
 have HNE:=Lib.hid hne
 clear hf hne
 generalize bt s.data.toList (i+1)=nx at *
 generalize bt s.data.toList i=c at *
 have hin:(i:Int)+(n:Int)<=s.size:=by omega
 have hin2:(i:Int)<=(i:Int)+(n:Int):=by omega
 have htn:((i:Int)+(n:Int)).toNat=i+n:=by omega
 have h16:¬ 16<n:=fun h=>by rw[hE,if_pos h] at he;cases he
 rw[if_neg h16] at hE
 have HB0:=Lib.hid (show Below w.heap.size w (w.alloc (.cells #[.int .i64 1,.string (s.extract i (i+n)),.int .i64 0,.int .i64 0,.string ⟨#[]⟩,.int .i64 i] 122)) from balloc (Below.refl _ _) _)
 have HE:=Lib.hid hE
 have h17:(i:Int)+(n:Int) - (i:Int)<=16:=by omega
 clear hE he
 by_cases h1:i+1<s.size
 all_goals
  go_enter Tryz.func179,Tryz.ntmps179
  go_wp2_with (first | (go_at_call 152;refine (isLetter_any _ _).mono ?_;rintro e w' ⟨rfl,rfl⟩) | (go_at_call 153;refine (HNE.out _ (by omega) (by omega)).mono ?_;rintro e w' ⟨rfl,rfl⟩))
  refine bodyPost_ret (v:=.tuple #[.agg #[.int .i64 1,.string (s.extract i (i+n)),.int .i64 0,.int .i64 0,.string ⟨#[]⟩,.int .i64 i],.int .i64 0]) (by simp [results,Tryz.results179,go_sem, *]) rfl ⟨by rw[HE.out];rfl,HB0.out⟩
set_option maxHeartbeats 16000000 in
set_option maxRecDepth 100000 in
theorem tokens_few (s:ByteArray) (w:World) (hlg:s.size<=16384) (hg:Glob w) (hf:∀ i,i<s.size->FewB (bt s.data.toList i)) (hz:(lexR s.data.toList).e=0) :
 Calls Tryz.prog 103 #[.string s] w (TokPost 122 w (lexR s.data.toList)):=by
 obtain⟨i0,hi0,hz0,hz1,hz2⟩:=info_parts Tryz.infoTok
 have hsl:s.data.toList.length=s.size:=rfl
 have hE:(LX (s.data.toList.drop 0) 0).behind []=lexR s.data.toList:=by
  rw[behind_nil,List.drop_zero];unfold lexR;rw[if_neg (by omega)]
 have hone:∀ i W,i<s.size->Glob W->bt s.data.toList i≠32->(oneS (s.data.toList.drop i) i).2=0->OneOk s i W:=fun i W hi hg h32 he=>by
  rcases hf i hi with h | h | h
  ·exact absurd h h32
  ·exact one_mark s i W hi (by omega) hg h
  ·exact name_few s i W hi (by omega) h he
 unfold OneOk at hone
 have HONE:=Lib.hid hone
 have HSL:=Lib.hid hsl
 have HE:=Lib.hid hE
 have HG:=Lib.hid hg
 have HF:=Lib.hid hf
 have HZ:=Lib.hid hz
 clear hone hsl hE hg hf hz
 generalize lexR s.data.toList=R at *
 generalize hL:s.data.toList=l at *
 have HL:=Lib.hid hL
 clear hL
 go_enter Tryz.func103,Tryz.ntmps103
 go_wp2_with fail
 go_loopw [5,2] (fun ix v wr=>∃ (k:Nat) (acc:List Tok) (a:Option Addr) (cap:Nat),k<=s.size/\ix=.int .i64 k/\v=.slice a acc.length cap/\wr.ownsRow w.heap.size 122 6 (.slice a acc.length cap) acc.length (tcells acc)/\Below w.heap.size w wr/\acc.length<=k/\(LX (l.drop k) k).behind acc=R) (fun ix _ _=>s.size - (intOf ix).toNat)
 case atStart =>
  exact⟨0,[],none,0,Nat.zero_le _,rfl,rfl,World.ownsRow_nil _ _ _ _,Below.refl _ _,by simp,HE.out⟩
 case round =>
  obtain⟨k,acc,a,cap,hk,rfl,rfl,hown,hbel,hacc,hrel⟩:=hrel
  have HR:=Lib.hid hrel
  have HO:=Lib.hid hown
  have HBE:=Lib.hid hbel
  have hsz:=hbel.size
  clear hrel hown hbel
  by_cases hlt:k<s.size
  ·have hbt:=bt_of s k hlt
   rw[HL.out] at hbt
   have hkl:k<l.length:=by have:=HSL.out;omega
   have h35:bt l k≠35:=by
    rcases HF.out k hlt with h | h | h
    ·omega
    ·omega
    ·intro e
     rw[e] at h
     exact absurd h (by decide)
   have q35:(bt l k != 35)=true:=by simpa using h35
   have hne:¬ (l.drop k=[]∨bt (l.drop k) 0=35):=by
    rw[drop0]
    exact fun e=>e.elim (drop_ne hkl) h35
   by_cases hsp:bt l k=32
   ·have hb:=LX_blank (p:=k) hne (by rw[drop0];exact spB_of (.inl hsp))
    rw[List.drop_drop] at hb
    rw[hb] at HR
    clear h35 hne hb
    rw[hsp] at hbt
    clear hsp q35
    go_wp2_with fail
    go_round
    case rel=>exact⟨k+1,acc,a,cap,by omega,by go_num,rfl,HO.out,HBE.out,by omega,HR.out⟩
    case measure=>simp [intOf];omega
   ·have h9:bt l k≠9:=by
     rcases HF.out k hlt with h | h | h
     ·omega
     ·omega
     ·intro e
      rw[e] at h
      exact absurd h (by decide)
    have hspf:=spB_not (c:=bt l k) (fun h=>h.elim hsp h9)
    rw[<-drop0] at hspf
    have q32:(bt l k == 32)=false:=by rw[beq_eq_false_iff_ne];exact hsp
    have q9:(bt l k == 9)=false:=by rw[beq_eq_false_iff_ne];exact h9
    have he0:(oneS (l.drop k) k).2=0:=by
     by_cases he:(oneS (l.drop k) k).2=0
     ·exact he
     ·have h1:=HR.out
      rw[behind_bad acc hne hspf he] at h1
      have h2:=HZ.out
      rw[<-h1] at h2
      exact h2
    have hbo:=HONE.out k wr hlt (HG.out.below HBE.out) hsp he0
    have hls:R=(LX (l.drop (k+(oneS (l.drop k) k).1.x.length)) (k+(oneS (l.drop k) k).1.x.length)).behind (acc++[(oneS (l.drop k) k).1]):=by
     rw[<-HR.out,behind_one acc hne hspf he0,List.drop_drop]
    have hlen:=one_len (r:=l.drop k) (p:=k) he0 (drop_ne hkl)
    rw[List.length_drop,HSL.out] at hlen
    clear h35 hsp hspf hne h9
    generalize oneS (l.drop k) k=o at *
    obtain⟨⟨tk,tx,tvk,tvn,tvt,tp⟩,e0⟩:=o
    unfold Tok.v at hbo
    simp only at hls hlen hbo he0
    subst he0
    have HBO:=Lib.hid hbo
    clear hbo HONE HR
    obtain⟨l1,htx,l3⟩:=hlen
    clear htx
    have HLS:=Lib.hid hls
    clear hls
    go_wp2_with fail
    refine HBO.out.mono ?_
    rintro e w1 ⟨rfl,hb1⟩
    have hsz1:=hb1.size
    have hb1':=HBE.out.trans (hb1.mono hsz)
    have hown1:=(Mod.ofBelow (F:=fun _=>False) hb1).ownsRow HO.out (fun _ _ f=>f)
    have HO1:=Lib.hid hown1
    have HB1:=Lib.hid hb1'
    clear hown1 hb1 hb1'
    go_wp2_with (at_builtin;refine wpList_append_lies _ rfl (.tmp 43) (.tmp 45) 176 rfl w.heap.size 122 i0 (.agg #[.int .i64 0,.string ⟨#[]⟩,.int .i64 0,.int .i64 0,.string ⟨#[]⟩,.int .i64 0]) 6 64 Tryz.underlying176 hi0 hz0 hz1 hz2 rfl (by decide) (.slice a acc.length cap) acc.length _ rfl ((HO1.out.alloc _).alloc _) ⟨w1.heap.size+1,0,none⟩ 1 1 (⟨tk,tx,tvk,tvn,tvt,tp⟩:Tok).cells rfl rfl (World.news_of_block (blk_new1 _ _ _ _)) (tok_one _) (by decide) ?c3 ?c5 ?c4 _ rfl ?_)
    case c3=>unfold maxLen;omega
    case c5=>omega
    case c4=>simp;omega
    intro g cap1 w2 hown2 hgrow2 hat2 hlt2
    have hb2:Below w.heap.size w w2:=(balloc (balloc HB1.out _) _).grown hgrow2 (by simp;omega) (fun q hq=>(HO1.out.lt q hq).1)
    have hblk:=(((Blk.new w1 122 #[.int .i64 tk,.string ⟨tx.toArray⟩,.int .i64 tvk,.int .i64 tvn,.string ⟨tvt.toArray⟩,.int .i64 tp]).alloc (.cells #[.int .i64 tk,.string ⟨tx.toArray⟩,.int .i64 tvk,.int .i64 tvn,.string ⟨tvt.toArray⟩,.int .i64 tp] 122)).grown hgrow2 (fun e=>by have:=(HO1.out.lt _ e.symm).2;omega))
    have r1:=hblk.cell 1
    simp only[List.getElem?_toArray,List.getElem?_cons_zero,List.getElem?_cons_succ] at r1
    have HO2:=Lib.hid hown2
    clear hown2 hblk
    go_wp2_with fail
    go_round
    case rel =>
     refine⟨k+tx.length,acc++[⟨tk,tx,tvk,tvn,tvt,tp⟩],some ⟨g,0,none⟩,cap1,by omega,?_,by simp,?_,hb2,by simp;omega,HLS.out.symm⟩
     ·go_num
     ·rw[show (acc++[(⟨tk,tx,tvk,tvn,tvt,tp⟩:Tok)]).length=acc.length+1 by simp,tcells_snoc]
      exact HO2.out
    case measure=>simp [intOf];omega
  ·have hke:k=s.size:=by omega
   subst hke
   have HEE:Hid (R=⟨acc++[endTok s.size],0,0⟩):=Lib.hid (by
    rw[<-HR.out,behind_end acc (.inl (List.drop_of_length_le (by have:=HSL.out;omega)))]
    rw[List.length_drop,HSL.out,Nat.sub_self,Nat.add_zero])
   go_wp2_with (at_builtin;refine wpList_append_lies _ rfl (.tmp 52) (.tmp 56) 176 rfl w.heap.size 122 i0 (.agg #[.int .i64 0,.string ⟨#[]⟩,.int .i64 0,.int .i64 0,.string ⟨#[]⟩,.int .i64 0]) 6 64 Tryz.underlying176 hi0 hz0 hz1 hz2 rfl (by decide) (.slice a acc.length cap) acc.length _ rfl (HO.out.alloc _) ⟨_,0,none⟩ 1 1 (endTok s.size).cells rfl rfl (World.news_of_block (Blk.new _ _ _)) (tok_one _) (by decide) ?c3 ?c5 ?c4 _ rfl ?_)
   case c3=>unfold maxLen;omega
   case c5=>omega
   case c4=>simp;omega
   intro g cap1 w2 hown2 hgrow2 hat2 hlt2
   have hb2:Below w.heap.size w w2:=(balloc HBE.out _).grown hgrow2 (by simp;omega) (fun q hq=>(HO.out.lt q hq).1)
   go_wp2_with fail
   go_ret3
   rw[HEE.out]
   refine⟨some ⟨g,0,none⟩,cap1,by simp,?_,hb2⟩
   rw[show (acc++[endTok s.size]).length=acc.length+1 by simp,tcells_snoc]
   exact hown2
theorem open_few (s:ByteArray) (w:World) (ts:List Tok) (hlg:s.size<=16384) (hg:Glob w) (hf:s.data.toList.all (fun c=>fewB c.toNat)=true) (hz:(lexR s.data.toList).e=0) (hts:(lexR s.data.toList).ts=ts) (hen:Ended ts) (hln:ts.length<=100000) :
 Calls Tryz.prog 54 #[.string s] w fun e w'=>∃ r vt,e=.returned (.pointer (some ⟨r,0,none⟩))/\w.heap.size<=r/\Rs w' r ts vt/\Below w.heap.size w w':=by
 subst hts
 exact open_good_of s w (lexR s.data.toList).ts _ _ hz hen hln (tokens_few s w hlg hg (fun i hi=>few_at hf hi) hz)
end Go.Proofs.YtgopfpjinohncaaGreatDoor
