/- Relations: columns, what Check and Show tell, plainly. slices.IndexFunc, ContainsFunc at osier/api.Column, walked (printed by idx.py). schema.kindName, again, Check, walked. schema.Check, walked. -/
import Derived.Test.YtgopfpjinohncaaGreatDoorGbL
import Derived.Test.YtgopfpjinohncaaGreatDoorLcL
import Derived.Lib.Join
import Derived.Shelf.Abstract
import Derived.OwnWalk
import Derived.Deep.QuietTactic
import Derived.BigQuiet
namespace Go.Proofs.YtgopfpjinohncaaGreatDoor
open Go.RowKit
set_option linter.unusedVariables false
structure Col where
 x:List UInt8
 k:Int
deriving DecidableEq
structure Rln where
 name:List UInt8
 cols:List Col
deriving DecidableEq
def Col.cells (c:Col):List Value:=[.string ⟨c.x.toArray⟩,.int .i64 c.k]
theorem col_len (cs:List Col):∀ x∈cs.map Col.cells,x.length=2:=by
 intro x hx
 simp at hx
 obtain⟨t,_,rfl⟩:=hx
 rfl
theorem col_one (cs:List Col):∀ x∈cs.map Col.cells,∀ u∈x,u.oneCell'=true:=by
 intro x hx u hu
 simp at hx
 obtain⟨t,_,rfl⟩:=hx
 simp only[Col.cells,List.mem_cons,List.not_mem_nil,or_false] at hu
 rcases hu with rfl | rfl<;>rfl
def ColsAt (w:World) (v:Value) (cs:List Col):Prop:=RowAt w v 2 (cs.map Col.cells)
def ColsOwn (B:Nat) (w:World) (v:Value) (cs:List Col):Prop:=w.ownsRow B 109 2 v cs.length (cs.flatMap Col.cells)
theorem cols_flat (cs:List Col):(cs.map Col.cells).flatten=cs.flatMap Col.cells:=by
 induction cs with
 | nil=>rfl
 | cons a l ih=>simp [ih]
theorem ColsOwn.at {B:Nat} {w:World} {v:Value} {cs:List Col} (h:ColsOwn B w v cs) (hl:cs.length<=8796093022208):ColsAt w v cs:=by
 refine RowAt.ofOwn (base:=B) (e:=109) (n:=cs.length) ?_ (by simp) (col_len cs) (by simpa using hl)
 rw[cols_flat]
 exact h
theorem ColsAt.keep {w w':World} {v:Value} {cs:List Col} (h:ColsAt w v cs) (hb:Below w.heap.size w w'):ColsAt w' v cs:=RowAt.keep h hb
theorem ColsAt.len {w:World} {v:Value} {cs:List Col} (h:ColsAt w v cs):cs.length<=8796093022208:=by simpa using RowAt.len h
theorem ColsAt.form {w:World} {v:Value} {cs:List Col} (h:ColsAt w v cs):∃ (ad:Option Addr) (cap:Nat),v=.slice ad cs.length cap/\cs.length<=cap/\cap<=maxLen:=by
 obtain⟨ad,cap,h1,h2,h3⟩:=RowAt.form h
 exact⟨ad,cap,by simpa using h1,by simpa using h2,h3⟩
theorem ColsAt.get {w:World} {v:Value} {cs:List Col} (h:ColsAt w v cs) {i:Nat} {c:Col} (hi:cs[i]? = some c):∃ b off cap:Nat,v=.slice (some ⟨b,off,none⟩) cs.length cap/\cs.length<=cap/\cap<=maxLen/\b<w.heap.size/\w.cell? ⟨b,off+i * 2,none⟩=some (.string ⟨c.x.toArray⟩)/\w.cell? ⟨b,off+i * 2+1,none⟩=some (.int .i64 c.k):=by
 obtain⟨b,off,cap,h1,h2,h3,h4,h5⟩:=RowAt.get h (i:=i) (x:=c.cells) (by simp [hi])
 exact⟨b,off,cap,by simpa using h1,by simpa using h2,h3,h4,by simpa using h5 0 _ rfl,by simpa using h5 1 _ rfl⟩
def againG (seen:List (List UInt8)):List Col->Nat->Int
 | [],_ => -1
 | c::r,i=>if c.x∈seen then i else againG (seen++[c.x]) r (i+1)
def againI (l:List Col):Int:=againG [] l 0
theorem again_hit {l:List Col} {k:Nat} {c:Col} (h:l[k]? = some c) (hm:c.x∈(l.take k).map (·.x)):againG ((l.take k).map (·.x)) (l.drop k) k=k:=by
 rw[List.drop_eq_getElem_cons (List.getElem?_eq_some_iff.1 h).1,(List.getElem?_eq_some_iff.1 h).2]
 unfold againG
 rw[if_pos hm]
theorem again_step {l:List Col} {k:Nat} {c:Col} (h:l[k]? = some c) (hm:c.x ∉ (l.take k).map (·.x)):againG ((l.take k).map (·.x)) (l.drop k) k=againG ((l.take (k+1)).map (·.x)) (l.drop (k+1)) (k+1):=by
 rw[List.drop_eq_getElem_cons (List.getElem?_eq_some_iff.1 h).1,(List.getElem?_eq_some_iff.1 h).2]
 conv=>lhs;unfold againG
 rw[if_neg hm,List.take_add_one,h]
 simp
theorem again_range:∀ (l:List Col) (seen:List (List UInt8)) (i:Nat),againG seen l i = -1∨∃ j:Nat,againG seen l i=j/\i<=j/\j<i+l.length
 | [],seen,i=>.inl rfl
 | s::r,seen,i=>by
   unfold againG
   split
   ·exact .inr ⟨i,rfl,Nat.le_refl _,by simp⟩
   ·rcases again_range r (seen++[s.x]) (i+1) with h | ⟨j,h1,h2,h3⟩
    ·exact .inl h
    ·exact .inr ⟨j,h1,by omega,by simp;omega⟩
def badK (c:Col):Bool:=decide (c.k≠1/\c.k≠2)
def chkC (nm:List UInt8) (cs:List Col):Int :=
 if isNameB nm=false then 72 else if (cs.any fun c => !isNameB c.x)=true then 72 else if 5<cs.length then 81 else if cs.any badK=true then 83 else if 0<=againI cs then 82 else 0
def kindN (k:Int):List UInt8:=if k=2 then [116,101,120,116] else [105,110,116]
def colT (c:Col):List UInt8:=c.x++[32]++kindN c.k
def showC (nm:List UInt8) (cs:List Col):List UInt8:=if chkC nm cs=0 then nm++[40]++Lib.join (cs.map colT) [44,32]++[41] else []
set_option maxHeartbeats 4000000 in
set_option maxRecDepth 100000 in
theorem indexFunc_Col (g:Nat) (lb:Array Value) (eg:∀ args w,(callFunc g args).run Tryz.prog w=.ok (.enter g args) w) (p:List Value->Bool) (w:World) (v:Value) (xs:List (List Value)) (h:RowAt w v 2 xs) (hl:∀ x∈xs,x.length=2)
 (hf:∀ (W:World) (x:List Value),Below w.heap.size w W->x∈xs->Calls Tryz.prog g (#[.agg x.toArray]++lb) W fun e W'=>e=.returned (.bool (p x))/\Below W.heap.size W W') :
 Calls Tryz.prog 212 #[v,.func (.func g) #[] lb] w fun e w'=>e=.returned (.int .i64 (idxP p xs))/\Below w.heap.size w w':=by
 obtain⟨ad,cap,rfl,hnc,hcm⟩:=h.form
 have hln:=h.len
 have HR:=Lib.hid h
 have HL:=Lib.hid hl
 have HF:=Lib.hid hf
 unfold maxLen at hcm
 generalize hn:xs.length=n at *
 have HN:=Lib.hid hn
 clear h hl hf hn
 go_enter Tryz.func212,Tryz.ntmps212
 go_wp2_with fail
 go_loopw [5,8] (fun _ i wr=>∃ k:Nat,k<=n/\i=.int .i64 k/\Hid (Below w.heap.size w wr)/\Hid (∀ x∈xs.take k,p x=false)) (fun _ i _=>n - (intOf i).toNat)
 case atStart=>exact⟨0,Nat.zero_le _,rfl,Lib.hid (Below.refl _ _),Lib.hid (by simp)⟩
 case round =>
  obtain⟨k,hk,rfl,HB,HP⟩:=hrel
  by_cases hlt:k<n
  ·obtain⟨x,hx⟩:∃ x,xs[k]? = some x:=⟨xs[k]'(by rw[HN.out];exact hlt),List.getElem?_eq_getElem (by rw[HN.out];exact hlt)⟩
   have hm:x∈xs:=List.mem_of_getElem? hx
   obtain⟨b,off,cap',hv,_,_,hbl,hce⟩:=(HR.out.keep HB.out).get hx
   rw[HN.out] at hv
   simp only[Value.slice.injEq,true_and] at hv
   obtain⟨rfl,rfl⟩:=hv
   obtain⟨e0,e1,rfl⟩:=len2 (HL.out x hm)
   have q0:=hce 0 e0 rfl
   have q1:=hce 1 e1 rfl
   simp only[Nat.add_zero] at q0 q1
   have hcall:=HF.out wr _ HB.out hm
   have HX:=Lib.hid hx
   clear hce hm hx
   cases hq:p [e0,e1] with
   | true =>
     rw[hq] at hcall
     have HC:=Lib.hid hcall
     have HQ:=Lib.hid hq
     clear hcall hq
     go_wp2_with fail
     refine HC.out.mono ?_
     rintro e w' ⟨rfl,hb'⟩
     have HB':=Lib.hid hb'
     clear hb'
     go_wp2_with fail
     go_ret
     refine⟨?_,HB.out.trans (HB'.out.mono HB.out.size)⟩
     rw[idxP_hit HX.out HQ.out HP.out]
     rfl
   | false =>
     rw[hq] at hcall
     have HC:=Lib.hid hcall
     have HQ:=Lib.hid hq
     clear hcall hq
     go_wp2_with fail
     refine HC.out.mono ?_
     rintro e w' ⟨rfl,hb'⟩
     have HB':=Lib.hid hb'
     clear hb'
     go_wp2_with fail
     go_roundw
     case rel =>
      refine⟨k+1,by omega,by go_num,Lib.hid (HB.out.trans (HB'.out.mono HB.out.size)),Lib.hid ?_⟩
      rw[List.take_add_one,HX.out]
      intro y hy
      simp at hy
      rcases hy with hy | rfl
      ·exact HP.out y hy
      ·exact HQ.out
     case measure=>simp [intOf];omega
  ·obtain rfl:k=n:=by omega
   go_wp2_with fail
   go_ret
   refine⟨?_,HB.out⟩
   have hp:=HP.out
   rw[List.take_of_length_le (by rw[HN.out];exact Nat.le_refl _)] at hp
   rw[idxP_miss hp]
   rfl
set_option maxHeartbeats 4000000 in
set_option maxRecDepth 100000 in
theorem containsFunc_Col (g:Nat) (lb:Array Value) (eg:∀ args w,(callFunc g args).run Tryz.prog w=.ok (.enter g args) w) (p:List Value->Bool) (w:World) (v:Value) (xs:List (List Value)) (h:RowAt w v 2 xs) (hl:∀ x∈xs,x.length=2)
 (hf:∀ (W:World) (x:List Value),Below w.heap.size w W->x∈xs->Calls Tryz.prog g (#[.agg x.toArray]++lb) W fun e W'=>e=.returned (.bool (p x))/\Below W.heap.size W W') :
 Calls Tryz.prog 161 #[v,.func (.func g) #[] lb] w fun e w'=>e=.returned (.bool (xs.any p))/\Below w.heap.size w w':=by
 have HI:=Lib.hid (indexFunc_Col g lb eg p w v xs h hl hf)
 have hb:=idxP_any p xs
 have HA:=Lib.hid hb
 clear h hl hf hb
 go_enter Tryz.func161,Tryz.ntmps161
 go_wp2_with fail
 refine HI.out.mono ?_
 rintro e w' ⟨rfl,hb'⟩
 have HB':=Lib.hid hb'
 clear hb'
 generalize idxP p xs=q at *
 go_wp2_with fail
 go_ret
 exact⟨by rw[<-HA.out];rfl,HB'.out⟩
set_option maxHeartbeats 1000000 in
set_option maxRecDepth 100000 in
theorem kindName_any (k:Int) (w:World):Calls Tryz.prog 148 #[.int .i64 k] w fun e w'=>e=.returned (.string ⟨(kindN k).toArray⟩)/\w=w':=by
 unfold kindN
 by_cases h:k=2
 ·rw[if_pos h]
  subst h
  go_enter Tryz.func148,Tryz.ntmps148
  go_wp2_with fail
  go_ret
  exact⟨rfl,rfl⟩
 ·rw[if_neg h]
  have hb:(k == 2)=false:=by simpa using h
  go_enter Tryz.func148,Tryz.ntmps148
  go_wp2_with fail
  go_ret
  exact⟨rfl,rfl⟩
set_option maxHeartbeats 1000000 in
set_option maxRecDepth 100000 in
theorem againClo_any (w:World) (d:Col) (b:Nat) (s:List UInt8) (hc:w.cell? ⟨b,0,none⟩=some (.string ⟨s.toArray⟩)) :
 Calls Tryz.prog 197 #[.agg #[.string ⟨d.x.toArray⟩,.int .i64 d.k],.pointer (some ⟨b,0,none⟩)] w fun e w'=>e=.returned (.bool (decide (d.x=s)))/\Below w.heap.size w w':=by
 have hbl:=World.block_lt_of_cell? w _ hc
 simp at hbl
 have hne:b≠w.heap.size:=by omega
 have hc2:(w.alloc (.cells #[.string ⟨d.x.toArray⟩,.int .i64 d.k] 109)).cell? ⟨b,0,none⟩=some (.string ⟨s.toArray⟩):=((balloc (Below.refl w.heap.size w) _).cell (p:=⟨b,0,none⟩) hbl).trans hc
 have HB:=Lib.hid (balloc (Below.refl w.heap.size w) (.cells #[.string ⟨d.x.toArray⟩,.int .i64 d.k] 109))
 by_cases h:d.x=s
 ·subst h
  rw[decide_eq_true rfl]
  go_enter Tryz.func197,Tryz.ntmps197
  go_wp2_with fail
  go_ret
  exact⟨by simp,HB.out⟩
 ·rw[decide_eq_false h]
  have hq2:¬ ((⟨d.x.toArray⟩:ByteArray)=⟨s.toArray⟩):=fun e=>h (bytes_eq.1 e)
  have hq3:(d.x == s)=false:=by simpa using h
  go_enter Tryz.func197,Tryz.ntmps197
  go_wp2_with fail
  go_ret
  exact⟨by simp,HB.out⟩
def colX:List Value->List UInt8
 | .string b::_=>b.data.toList
 | _=>[]
theorem any_colX (s:List UInt8) (l:List Col):(l.map Col.cells).any (fun y=>decide (colX y=s))=decide (s∈l.map (·.x)):=by
 induction l with
 | nil=>rfl
 | cons a l ih =>
   simp only[List.map_cons,List.any_cons,ih,List.mem_cons]
   have:colX a.cells=a.x:=by simp [Col.cells,colX]
   rw[this]
   by_cases h1:a.x=s<;>by_cases h2:s∈l.map (·.x)<;>simp [h1,h2]
   intro h3
   exact absurd h3.symm h1
set_option maxHeartbeats 4000000 in
set_option maxRecDepth 100000 in
theorem again_any (w:World) (v:Value) (cs:List Col) (h:ColsAt w v cs) :
 Calls Tryz.prog 128 #[v] w fun e w'=>e=.returned (.int .i64 (againI cs))/\Below w.heap.size w w':=by
 have hmf:∀ (fn:Fn) (first cap:Array Value) (w:World),(Instr.makeFunc fn first cap).run Tryz.prog w=.ok (.func fn first cap) w:=fun _ _ _ _=>rfl
 obtain⟨ad,cap,rfl,hnc,hcm⟩:=h.form
 have hln:=h.len
 have HR:=Lib.hid h
 unfold maxLen at hcm
 have hres:againG ((cs.take 0).map (·.x)) (cs.drop 0) 0=againI cs:=rfl
 generalize againI cs=RES at *
 have HRES:=Lib.hid hres
 generalize hn:cs.length=n at *
 have HN:=Lib.hid hn
 clear h hn hres
 go_enter Tryz.func128,Tryz.ntmps128
 go_wp2_with fail
 go_loopw [7] (fun i wr=>∃ k:Nat,k<=n/\i=.int .i64 k/\Hid (againG ((cs.take k).map (·.x)) (cs.drop k) k=RES)/\Hid (Below w.heap.size w wr)) (fun i _=>n - (intOf i).toNat)
 case atStart=>exact⟨0,Nat.zero_le _,rfl,HRES,Lib.hid (Below.refl _ _)⟩
 case round =>
  obtain⟨k,hk,rfl,HE,BW⟩:=hrel
  by_cases hlt:k<n
  ·obtain⟨c,hc⟩:∃ c,cs[k]? = some c:=⟨cs[k]'(by rw[HN.out];exact hlt),List.getElem?_eq_getElem (by rw[HN.out];exact hlt)⟩
   obtain⟨tb,tfo,tcap,htv,_,_,htbl,t0,t1⟩:=(ColsAt.keep HR.out BW.out).get hc
   simp only[HN.out,Value.slice.injEq,true_and] at htv
   obtain⟨rfl,rfl⟩:=htv
   have hkc:k<=cap:=by omega
   have hb2:Below wr.heap.size wr (wr.alloc (.cells #[.string ⟨c.x.toArray⟩,.int .i64 c.k] 109)):=balloc (Below.refl _ _) _
   have hrt:RowAt (wr.alloc (.cells #[.string ⟨c.x.toArray⟩,.int .i64 c.k] 109)) (.slice (some ⟨tb,tfo,none⟩) k cap) 2 ((cs.take k).map Col.cells):=by
    rw[List.map_take]
    exact (((ColsAt.keep HR.out BW.out).keep hb2:RowAt _ _ _ _)).take (by rw[List.length_map,HN.out];exact hk) (by rw[List.length_map,HN.out])
   have hcf:=containsFunc_Col 197 #[.pointer (some ⟨wr.heap.size,0,none⟩)] (enters_of Tryz.func197 (by kernel_rfl) rfl) (fun y=>decide (colX y=c.x)) (wr.alloc (.cells #[.string ⟨c.x.toArray⟩,.int .i64 c.k] 109)) _ _ hrt (col_len _) (fun W y hb hy=>by
    obtain⟨d,_,rfl⟩:=List.mem_map.1 hy
    have hcell:W.cell? ⟨wr.heap.size,0,none⟩=some (.string ⟨c.x.toArray⟩):=by
     have:=((Blk.new wr 109 #[.string ⟨c.x.toArray⟩,.int .i64 c.k]).below hb (by simp)).cell 0
     simpa using this
    have hcl:=againClo_any W d wr.heap.size c.x hcell
    have he:colX d.cells=d.x:=by simp [Col.cells,colX]
    rw[he]
    exact hcl)
   rw[any_colX] at hcf
   have HC:=Lib.hid hc
   have HB2:=Lib.hid hb2
   clear hrt hb2
   by_cases hq:c.x∈(cs.take k).map (·.x)
   ·rw[decide_eq_true hq] at hcf
    have hp:=HE.out
    rw[again_hit hc hq] at hp
    subst hp
    have HCF:=Lib.hid hcf
    clear hcf hc hq
    go_wp2_with fail
    refine HCF.out.mono ?_
    rintro e w2 ⟨rfl,hb⟩
    have HB3:=Lib.hid (BW.out.trans ((HB2.out.trans (hb.mono (by simp))).mono BW.out.size))
    clear hb
    go_wp2_with fail
    go_ret
    exact⟨rfl,HB3.out⟩
   ·rw[decide_eq_false hq] at hcf
    have hp:=HE.out
    rw[again_step hc hq] at hp
    have HP:=Lib.hid hp
    have HCF:=Lib.hid hcf
    clear hcf hc hq hp
    go_wp2_with fail
    refine HCF.out.mono ?_
    rintro e w2 ⟨rfl,hb⟩
    have HB3:=Lib.hid (BW.out.trans ((HB2.out.trans (hb.mono (by simp))).mono BW.out.size))
    clear hb
    go_wp2_with fail
    go_roundw
    case rel=>exact⟨k+1,by omega,by go_num,HP,HB3⟩
    case measure=>simp [intOf];omega
  ·obtain rfl:k=n:=by omega
   have hp:=HE.out
   rw[List.drop_of_length_le (by rw[HN.out];exact Nat.le_refl _)] at hp
   unfold againG at hp
   subst hp
   go_wp2_with fail
   go_ret
   exact⟨rfl,BW.out⟩
set_option maxHeartbeats 1000000 in
set_option maxRecDepth 100000 in
theorem chkName_any (w:World) (d:Col) (hs:d.x.length<=140737488355328) :
 Calls Tryz.prog 162 #[.agg #[.string ⟨d.x.toArray⟩,.int .i64 d.k]] w fun e w'=>e=.returned (.bool (!isNameB d.x))/\Below w.heap.size w w':=by
 have hnot:∀ (x:Bool) (w:World),(Op.unary .not (.bool x)).run Tryz.prog w=.ok (.bool (!x)) w:=fun _ _=>rfl
 have HI:=Lib.hid (fun W=>isName_any ⟨d.x.toArray⟩ W (by simpa [ByteArray.size] using hs))
 have HB:=Lib.hid (balloc (Below.refl w.heap.size w) (.cells #[.string ⟨d.x.toArray⟩,.int .i64 d.k] 109))
 obtain⟨q,hq⟩:∃ q,q=isNameB d.x:=⟨_,rfl⟩
 rw[<-hq]
 have HQ:=Lib.hid hq
 clear hq hs
 go_enter Tryz.func162,Tryz.ntmps162
 go_wp2_with fail
 refine (HI.out _).mono ?_
 rintro e w2 ⟨rfl,rfl⟩
 go_wp2_with fail
 go_ret
 exact⟨by rw[HQ.out];rfl,HB.out⟩
set_option maxHeartbeats 1000000 in
set_option maxRecDepth 100000 in
theorem chkKind_any (w:World) (d:Col) :
 Calls Tryz.prog 163 #[.agg #[.string ⟨d.x.toArray⟩,.int .i64 d.k]] w fun e w'=>e=.returned (.bool (badK d))/\Below w.heap.size w w':=by
 have HB:=Lib.hid (balloc (Below.refl w.heap.size w) (.cells #[.string ⟨d.x.toArray⟩,.int .i64 d.k] 109))
 unfold badK
 by_cases h1:d.k=1
 ·have q1:(d.k != 1)=false:=by simp [h1]
  have hr:decide (d.k≠1/\d.k≠2)=false:=by simp [h1]
  rw[hr]
  clear h1 hr
  go_enter Tryz.func163,Tryz.ntmps163
  go_wp2_with fail
  go_ret
  exact⟨rfl,HB.out⟩
 ·have q1:(d.k != 1)=true:=by simpa using h1
  by_cases h2:d.k=2
  ·have q2:(d.k != 2)=false:=by simp [h2]
   have hr:decide (d.k≠1/\d.k≠2)=false:=by simp [h2]
   rw[hr]
   clear h1 h2 hr
   go_enter Tryz.func163,Tryz.ntmps163
   go_wp2_with fail
   go_ret
   exact⟨rfl,HB.out⟩
  ·have q2:(d.k != 2)=true:=by simpa using h2
   have hr:decide (d.k≠1/\d.k≠2)=true:=by simp [h1,h2]
   rw[hr]
   clear h1 h2 hr
   go_enter Tryz.func163,Tryz.ntmps163
   go_wp2_with fail
   go_ret
   exact⟨rfl,HB.out⟩
def colK:List Value->Int
 | [_,.int _ k]=>k
 | _=>0
theorem any_cells (p:Col->Bool) (q:List Value->Bool) (hq:∀ c:Col,q c.cells=p c) (l:List Col):(l.map Col.cells).any q=l.any p:=by
 induction l with
 | nil=>rfl
 | cons a l ih=>simp only[List.map_cons,List.any_cons,ih,hq]
set_option maxHeartbeats 1000000 in
set_option maxRecDepth 100000 in
theorem chkBad_any (g:Nat) (eg:∀ args w,(callFunc g args).run Tryz.prog w=.ok (.enter g args) w) (p:Col->Bool) (q:List Value->Bool) (hq:∀ c:Col,q c.cells=p c) (w:World) (b:Nat) (nm:Value) (v:Value) (cs:List Col) (hb:Blk w b 57 #[nm,v]) (h:ColsAt w v cs)
 (hf:∀ (W:World) (d:Col),d∈cs->Calls Tryz.prog g #[.agg #[.string ⟨d.x.toArray⟩,.int .i64 d.k]] W fun e W'=>e=.returned (.bool (p d))/\Below W.heap.size W W') :
 Calls Tryz.prog 160 #[.func (.func g) #[] #[],.pointer (some ⟨b,0,none⟩)] w fun e w'=>e=.returned (.bool (cs.any p))/\Below w.heap.size w w':=by
 have hc:=containsFunc_Col g #[] eg q w v (cs.map Col.cells) h (col_len _) (fun W y _ hy=>by
  obtain⟨d,hd,rfl⟩:=List.mem_map.1 hy
  rw[hq]
  exact hf W d hd)
 rw[any_cells p q hq] at hc
 have x1:=hb.cell 1
 have xl:=hb.lt
 simp only[List.getElem?_toArray,List.getElem?_cons_zero,List.getElem?_cons_succ] at x1
 have HC:=Lib.hid hc
 clear hc hb h hf
 generalize cs.any p=RES at *
 go_enter Tryz.func160,Tryz.ntmps160
 go_wp2_with fail
 refine HC.out.mono ?_
 rintro e w2 ⟨rfl,hb2⟩
 have HB2:=Lib.hid hb2
 clear hb2
 go_wp2_with fail
 go_ret
 exact⟨rfl,HB2.out⟩
set_option maxHeartbeats 8000000 in
set_option maxRecDepth 100000 in
theorem check_any (w:World) (nm:ByteArray) (v:Value) (cs:List Col) (h:ColsAt w v cs) (hn:nm.size<=140737488355328) (hc:∀ c∈cs,c.x.length<=140737488355328) :
 Calls Tryz.prog 79 #[.agg #[.string nm,v]] w fun e w'=>e=.returned (.int .i64 (chkC nm.data.toList cs))/\Below w.heap.size w w':=by
 have hmf:∀ (fn:Fn) (first cap:Array Value) (w:World),(Instr.makeFunc fn first cap).run Tryz.prog w=.ok (.func fn first cap) w:=fun _ _ _ _=>rfl
 have hnot:∀ (x:Bool) (w:World),(Op.unary .not (.bool x)).run Tryz.prog w=.ok (.bool (!x)) w:=fun _ _=>rfl
 have hbox:=Blk.new w 57 #[.string nm,v]
 have hb0:Below w.heap.size w (w.alloc (.cells #[.string nm,v] 57)):=balloc (Below.refl _ _) _
 have HN:=Lib.hid (fun W=>isName_any nm W hn)
 have e87:=enters_of Tryz.func162 (P:=Tryz.prog) (by kernel_rfl) rfl
 have e88:=enters_of Tryz.func163 (P:=Tryz.prog) (by kernel_rfl) rfl
 have e84:=enters_of Tryz.func160 (P:=Tryz.prog) (by kernel_rfl) rfl
 have HB1:=Lib.hid (fun (W:World) (hW:Below (w.alloc (.cells #[.string nm,v] 57)).heap.size (w.alloc (.cells #[.string nm,v] 57)) W)=>chkBad_any 162 e87 (fun c => !isNameB c.x) (fun y => !isNameB (colX y)) (fun c=>by simp [Col.cells,colX]) W w.heap.size _ v cs (hbox.below hW (by simp)) (h.keep (hb0.trans (hW.mono (by simp)))) (fun W d hd=>chkName_any W d (hc d hd)))
 have HB2:=Lib.hid (fun (W:World) (hW:Below (w.alloc (.cells #[.string nm,v] 57)).heap.size (w.alloc (.cells #[.string nm,v] 57)) W)=>chkBad_any 163 e88 badK (fun y=>badK ⟨[],colK y⟩) (fun _=>rfl) W w.heap.size _ v cs (hbox.below hW (by simp)) (h.keep (hb0.trans (hW.mono (by simp)))) (fun W d hd=>chkKind_any W d))
 have HA:=Lib.hid (fun (W:World) (hW:Below (w.alloc (.cells #[.string nm,v] 57)).heap.size (w.alloc (.cells #[.string nm,v] 57)) W)=>again_any W v cs (h.keep (hb0.trans (hW.mono (by simp)))))
 obtain⟨ad,cap,rfl,hnc,hcm⟩:=h.form
 have HBX:=Lib.hid hbox
 have HB0:=Lib.hid hb0
 obtain⟨Q,hQ⟩:∃ Q,Q=chkC nm.data.toList cs:=⟨_,rfl⟩
 rw[<-hQ]
 unfold chkC at hQ
 generalize isNameB nm.data.toList=bn at *
 generalize (cs.any fun c => !isNameB c.x)=bx at *
 generalize cs.any badK=bk at *
 generalize againI cs=ag at *
 generalize cs.length=n at *
 have HQ:=Lib.hid hQ
 clear h hn hc hbox hb0 e87 e88 hQ
 cases bn with
 | false =>
   have hq:=HQ.out
   rw[if_pos rfl] at hq
   have HQ:=Lib.hid hq
   clear hq
   go_enter Tryz.func79,Tryz.ntmps79
   go_wp2_with fail
   refine (HN.out _).mono ?_
   rintro e w2 ⟨rfl,rfl⟩
   go_wp2_with fail
   go_ret
   exact⟨by rw[HQ.out];rfl,HB0.out⟩
 | true =>
   have hq:=HQ.out
   rw[if_neg (by decide)] at hq
   have HQ:=Lib.hid hq
   clear hq
   go_enter Tryz.func79,Tryz.ntmps79
   go_wp2_with fail
   refine (HN.out _).mono ?_
   rintro e w2 ⟨rfl,rfl⟩
   go_wp2_with fail
   refine (HB1.out _ (Below.refl _ _)).mono ?_
   rintro e w2 ⟨rfl,hb2⟩
   have y1:=(HBX.out.below hb2 (by simp)).cell 1
   have yl:=(HBX.out.below hb2 (by simp)).lt
   simp only[List.getElem?_toArray,List.getElem?_cons_zero,List.getElem?_cons_succ] at y1
   have H2:=Lib.hid hb2
   have HBB:=Lib.hid (HB0.out.trans (hb2.mono (by simp)))
   clear hb2
   cases bx with
   | true =>
     have hq:=HQ.out
     rw[if_pos rfl] at hq
     have HQ:=Lib.hid hq
     clear hq
     go_wp2_with fail
     go_ret
     exact⟨by rw[HQ.out];rfl,HBB.out⟩
   | false =>
     have hq:=HQ.out
     rw[if_neg (by decide)] at hq
     have HQ:=Lib.hid hq
     clear hq
     by_cases h5:5<n
     ·have hq:=HQ.out
      rw[if_pos h5] at hq
      have HQ:=Lib.hid hq
      clear hq
      have hd:(5:Int)<(n:Int):=by omega
      have hd2:¬ ((n:Int)<=5):=by omega
      go_wp2_with fail
      go_ret
      exact⟨by rw[HQ.out];rfl,HBB.out⟩
     ·have hq:=HQ.out
      rw[if_neg h5] at hq
      have HQ:=Lib.hid hq
      clear hq
      have hd:¬ ((5:Int)<(n:Int)):=by omega
      have hd2:(n:Int)<=5:=by omega
      have hd3:¬ 5<n:=h5
      go_wp2_with fail
      refine (HB2.out _ H2.out).mono ?_
      rintro e w3 ⟨rfl,hb3⟩
      have hb13:=H2.out.trans (hb3.mono H2.out.size)
      have y1:=(HBX.out.below hb13 (by simp)).cell 1
      have yl:=(HBX.out.below hb13 (by simp)).lt
      simp only[List.getElem?_toArray,List.getElem?_cons_zero,List.getElem?_cons_succ] at y1
      have H3:=Lib.hid hb13
      have HBC:=Lib.hid (HB0.out.trans (hb13.mono (by simp)))
      clear hb3 hb13
      cases bk with
      | true =>
        have hq:=HQ.out
        rw[if_pos rfl] at hq
        have HQ:=Lib.hid hq
        clear hq
        go_wp2_with fail
        go_ret
        exact⟨by rw[HQ.out];rfl,HBC.out⟩
      | false =>
        have hq:=HQ.out
        rw[if_neg (by decide)] at hq
        have HQ:=Lib.hid hq
        clear hq
        go_wp2_with fail
        refine (HA.out _ H3.out).mono ?_
        rintro e w4 ⟨rfl,hb4⟩
        have HBD:=Lib.hid (HB0.out.trans ((H3.out.trans (hb4.mono H3.out.size)).mono (by simp)))
        clear hb4
        by_cases h6:0<=ag
        ·have hq:=HQ.out
         rw[if_pos h6] at hq
         have HQ:=Lib.hid hq
         clear hq
         have hd4:decide (0<=ag)=true:=decide_eq_true h6
         go_wp2_with fail
         go_ret
         exact⟨by rw[HQ.out];rfl,HBD.out⟩
        ·have hq:=HQ.out
         rw[if_neg h6] at hq
         have HQ:=Lib.hid hq
         clear hq
         have hd4:decide (0<=ag)=false:=decide_eq_false h6
         go_wp2_with fail
         go_ret
         exact⟨by rw[HQ.out];rfl,HBD.out⟩
end Go.Proofs.YtgopfpjinohncaaGreatDoor
