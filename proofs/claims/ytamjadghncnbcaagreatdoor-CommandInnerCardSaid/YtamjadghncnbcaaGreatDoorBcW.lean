/- Batches of changes: what they are in memory; what is told of them, plainly. What change.Parse tells, plainly. What is read of a batch is right; a batch's text is read back: plainly. -/
import Derived.Test.YtamjadghncnbcaaGreatDoorGmW
import Derived.Test.YtamjadghncnbcaaGreatDoorJyW
import Derived.Test.YtamjadghncnbcaaGreatDoorKaW
import Derived.Test.YtamjadghncnbcaaGreatDoorGaW
namespace Go.Proofs.YtamjadghncnbcaaGreatDoor
open Go.RowKit
set_option linter.unusedVariables false
structure Chg where
 add:Bool
 rel:List UInt8
 row:List Vl
deriving DecidableEq
def ChgC (w:World) (cells:List Value) (c:Chg):Prop:=∃ rv,cells=[.bool c.add,.string ⟨c.rel.toArray⟩,rv]/\RowAt w rv 3 (c.row.map Vl.cells)/\c.row.length<=4398046511104
def ChgsAt (w:World) (v:Value) (l:List Chg):Prop:=∃ rows,RowAt w v 3 rows/\All2 (ChgC w) rows l
theorem ChgC.keep {w w':World} {row:List Value} {a:Chg} (h:ChgC w row a) (hb:Below w.heap.size w w'):ChgC w' row a:=by
 obtain⟨rv,rfl,h2,h3⟩:=h
 exact⟨rv,rfl,h2.keep hb,h3⟩
theorem ChgsAt.keep {w w':World} {v:Value} {l:List Chg} (h:ChgsAt w v l) (hb:Below w.heap.size w w'):ChgsAt w' v l:=by
 obtain⟨rows,h1,h2⟩:=h
 exact⟨rows,h1.keep hb,h2.mono fun b a hh=>hh.keep hb⟩
theorem ChgsAt.form {w:World} {v:Value} {l:List Chg} (h:ChgsAt w v l):∃ (ad:Option Addr) (cap:Nat),v=.slice ad l.length cap/\l.length<=cap/\cap<=maxLen:=by
 obtain⟨rows,h1,h2⟩:=h
 obtain⟨ad,cap,hv,h3,h4⟩:=h1.form
 rw[h2.length] at hv h3
 exact⟨ad,cap,hv,h3,h4⟩
theorem ChgsAt.get {w:World} {v:Value} {l:List Chg} (h:ChgsAt w v l) {i:Nat} {a:Chg} (hi:l[i]? = some a):∃ (b off cap:Nat) (rv:Value),v=.slice (some ⟨b,off,none⟩) l.length cap/\l.length<=cap/\cap<=maxLen/\b<w.heap.size /\
 w.cell? ⟨b,off+i * 3,none⟩=some (.bool a.add)/\w.cell? ⟨b,off+i * 3+1,none⟩=some (.string ⟨a.rel.toArray⟩)/\w.cell? ⟨b,off+i * 3+2,none⟩=some rv/\RowAt w rv 3 (a.row.map Vl.cells)/\a.row.length<=4398046511104:=by
 obtain⟨rows,h1,h2⟩:=h
 obtain⟨row,hr,rv,rfl,h3,h4⟩:=h2.get hi
 obtain⟨b,off,cap,hv,h5,h6,h7,h8⟩:=h1.get hr
 rw[h2.length] at hv h5
 exact⟨b,off,cap,rv,hv,h5,h6,h7,h8 0 _ rfl,h8 1 _ rfl,h8 2 _ rfl,h3,h4⟩
theorem ChgsAt.len {w:World} {v:Value} {l:List Chg} (h:ChgsAt w v l):l.length<=8796093022208:=by
 obtain⟨rows,h1,h2⟩:=h
 rw[<-h2.length]
 exact h1.len
theorem ChgsAt.nil (w:World):ChgsAt w (.slice none 0 0) []:=⟨[],RowAt.nil _ _,trivial⟩
theorem ChgsAt.rows {w:World} {v:Value} {l:List Chg} (h:ChgsAt w v l):∀ c∈l,c.row.length<=4398046511104:=by
 intro c hc
 obtain⟨i,hi⟩:=List.getElem?_of_mem hc
 obtain⟨_,_,_,_,_,_,_,_,_,_,_,_,h9⟩:=h.get hi
 exact h9
def ChgO (B:Nat) (w:World) (row:List Value) (c:Chg):Prop:=∃ rv,row=[.bool c.add,.string ⟨c.rel.toArray⟩,rv]/\w.ownsRow B 69 3 rv c.row.length (c.row.map Vl.cells).flatten
def ChgsOwn (B:Nat) (w:World) (v:Value) (l:List Chg):Prop :=
 ∃ rows:List (List Value),w.ownsRow B 51 3 v l.length rows.flatten/\All2 (ChgO B w) rows l
theorem ChgO.mt {B B':Nat} {w w':World} {row:List Value} {a:Chg} {Ts:List TypeId} (h:ChgO B w row a) (hm:MT B' Ts w w') (ht:69 ∉ Ts):ChgO B w' row a:=by
 obtain⟨rv,rfl,h2⟩:=h
 exact⟨rv,rfl,hm.ownsRow h2 ht⟩
theorem ChgO.low {B B':Nat} {w:World} {row:List Value} {a:Chg} (h:ChgO B w row a) (hb:B'<=B):ChgO B' w row a:=by
 obtain⟨rv,rfl,h2⟩:=h
 exact⟨rv,rfl,World.ownsRow.low h2 hb⟩
theorem ChgsOwn.low {B B':Nat} {w:World} {v:Value} {l:List Chg} (h:ChgsOwn B w v l) (hb:B'<=B):ChgsOwn B' w v l:=by
 obtain⟨rows,h1,h2⟩:=h
 exact⟨rows,World.ownsRow.low h1 hb,h2.mono fun b x hh=>hh.low hb⟩
theorem ChgsOwn.mt {B B':Nat} {w w':World} {v:Value} {l:List Chg} {Ts:List TypeId} (h:ChgsOwn B w v l) (hm:MT B' Ts w w') (h1:51 ∉ Ts) (h2:69 ∉ Ts):ChgsOwn B w' v l:=by
 obtain⟨rows,h3,h4⟩:=h
 exact⟨rows,hm.ownsRow h3 h1,h4.mono fun b x hh=>hh.mt hm h2⟩
theorem ChgsOwn.at {B:Nat} {w:World} {v:Value} {l:List Chg} (h:ChgsOwn B w v l) (hl:l.length<=8796093022208) (hr:∀ c∈l,c.row.length<=4398046511104):ChgsAt w v l:=by
 obtain⟨rows,h1,h2⟩:=h
 have hll:=h2.length
 refine⟨rows,RowAt.ofOwn h1 hll.symm ?_ (by omega),all2_and h2 fun c x hx hh=>?_⟩
 ·intro c hc
  obtain⟨x,_,rv,rfl,_⟩:=all2_mem h2 c hc
  rfl
 ·obtain⟨rv,rfl,ho⟩:=hh
  have hx2:=hr x hx
  exact⟨rv,rfl,RowAt.ofOwn ho (by simp) (vl_len _) (by simp;omega),hx2⟩
def RangeV (u:Vl):Prop := -9223372036854775808<=u.n/\u.n<=9223372036854775807
abbrev ChP:=Chg × Int
def litP (c:List Tok):PR Vl:=match tk 2 [] c with
 | .bad a e=>.bad a e
 | .ok t c1=>.ok ⟨t.vk,t.vn,t.vt⟩ c1
abbrev sgnX:List (List UInt8):=[[43],[45]]
def chgOf (s t:Tok) (l:List Vl):ChP:=(⟨decide (s.x=[43]),t.x,l⟩,s.p)
def chgP (c:List Tok):PR ChP:=match tk 3 sgnX c with
 | .bad a e=>.bad a e
 | .ok s c1=>match tk 1 [] c1 with
   | .bad a e=>.bad a e
   | .ok t c2=>match listP litP c2 with
     | .bad a e=>.bad a e
     | .ok l c3=>.ok (chgOf s t l) c3
theorem lit_bad {c:List Tok} {a e:Int} (h:tk 2 [] c=.bad a e):litP c=.bad a e:=by
 unfold litP
 rw[h]
theorem lit_ok {c c1:List Tok} {t:Tok} (h:tk 2 [] c=.ok t c1):litP c=.ok ⟨t.vk,t.vn,t.vt⟩ c1:=by
 unfold litP
 rw[h]
theorem chg_bad1 {c:List Tok} {a e:Int} (h:tk 3 sgnX c=.bad a e):chgP c=.bad a e:=by
 unfold chgP
 rw[h]
theorem chg_bad2 {c c1:List Tok} {s:Tok} {a e:Int} (h:tk 3 sgnX c=.ok s c1) (h2:tk 1 [] c1=.bad a e):chgP c=.bad a e:=by
 unfold chgP
 rw[h]
 simp only[h2]
theorem chg_bad3 {c c1 c2:List Tok} {s t:Tok} {a e:Int} (h:tk 3 sgnX c=.ok s c1) (h2:tk 1 [] c1=.ok t c2) (h3:listP litP c2=.bad a e):chgP c=.bad a e:=by
 unfold chgP
 rw[h]
 simp only[h2,h3]
theorem chg_ok {c c1 c2 c3:List Tok} {s t:Tok} {l:List Vl} (h:tk 3 sgnX c=.ok s c1) (h2:tk 1 [] c1=.ok t c2) (h3:listP litP c2=.ok l c3):chgP c=.ok (chgOf s t l) c3:=by
 unfold chgP
 rw[h]
 simp only[h2,h3]
theorem lit_less:Less litP:=by
 intro ts x ts' h
 cases h1:tk 2 [] ts with
 | bad a e=>rw[lit_bad h1] at h;cases h
 | ok t c1 =>
   rw[lit_ok h1] at h
   have h2:=tk_less _ _ _ _ _ h1
   simp only[PR.ok.injEq] at h
   rw[<-h.2]
   exact h2
theorem chg_less:Less chgP:=by
 intro ts x ts' h
 cases h1:tk 3 sgnX ts with
 | bad a e=>rw[chg_bad1 h1] at h;cases h
 | ok s c1 =>
   have g1:=tk_less _ _ _ _ _ h1
   cases h2:tk 1 [] c1 with
   | bad a e=>rw[chg_bad2 h1 h2] at h;cases h
   | ok t c2 =>
     have g2:=tk_less _ _ _ _ _ h2
     cases h3:listP litP c2 with
     | bad a e=>rw[chg_bad3 h1 h2 h3] at h;cases h
     | ok l c3 =>
       have g3:=list_less lit_less _ _ _ h3
       rw[chg_ok h1 h2 h3] at h
       simp only[PR.ok.injEq] at h
       rw[<-h.2]
       omega
def endT:List Tok->Bool
 | []=>true
 | t::_=>decide (t.k=0)
def overP (l:List ChP):Int:=match l[256]? with
 | some z=>z.2
 | none => -1
def chkB (l:List ChP):PR (List Chg):=if 0<=overP l then .bad (overP l) 100 else .ok (l.map (·.1)) []
def chgsP (c:List Tok):PR (List ChP):=if endT c=true then .ok [] c else someP chgP c
def batchT (c:List Tok):PR (List Chg):=match chgsP c with
 | .bad a e=>.bad a e
 | .ok l c1=>match tk 0 [] c1 with
   | .bad a e=>.bad a e
   | .ok _ _=>chkB l
theorem batchT_bad1 {c:List Tok} {a e:Int} (h:chgsP c=.bad a e):batchT c=.bad a e:=by
 unfold batchT
 rw[h]
theorem batchT_bad2 {c c1:List Tok} {l:List ChP} {a e:Int} (h:chgsP c=.ok l c1) (h2:tk 0 [] c1=.bad a e):batchT c=.bad a e:=by
 unfold batchT
 rw[h]
 simp only[h2]
theorem batchT_ok {c c1 c2:List Tok} {l:List ChP} {u:Tok} (h:chgsP c=.ok l c1) (h2:tk 0 [] c1=.ok u c2):batchT c=chkB l:=by
 unfold batchT
 rw[h]
 simp only[h2]
theorem overB_snoc (l:List ChP) (z:ChP):overP (l++[z])=if l.length=256 then z.2 else overP l:=by
 unfold overP
 by_cases h:l.length=256
 ·rw[if_pos h,List.getElem?_append_right (by omega),h]
  rfl
 ·rw[if_neg h]
  by_cases h2:256<l.length
  ·rw[List.getElem?_append_left h2]
  ·rw[List.getElem?_eq_none (by simp;omega),List.getElem?_eq_none (by omega)]
theorem overB_few {l:List ChP} (h:l.length<=256):overP l = -1:=by
 unfold overP
 rw[List.getElem?_eq_none h]
def ChgR (N:Nat) (z:ChP):Prop:=isNameB z.1.rel=true/\(∀ u∈z.1.row,validB u.k u.n u.t=true/\RangeV u)/\0<=z.2/\z.2<=N
theorem lit_sure (N:Nat):SureQ N litP (fun u=>validB u.k u.n u.t=true/\RangeV u):=by
 intro c h
 have h1:=tk_sureQ N 2 [] c h
 cases ho:tk 2 [] c with
 | bad a e=>rw[ho] at h1;rw[lit_bad ho];exact h1
 | ok t c1 =>
   rw[ho] at h1
   rw[lit_ok ho]
   have hl:=h1.1.1.1.2 h1.1.2
   exact⟨⟨hl.1,hl.2⟩,h1.2⟩
theorem chg_sure (N:Nat):SureQ N chgP (ChgR N):=by
 intro c h
 have h1:=tk_sureQ N 3 sgnX c h
 cases ho:tk 3 sgnX c with
 | bad a e=>rw[ho] at h1;rw[chg_bad1 ho];exact h1
 | ok s c1 =>
   rw[ho] at h1
   have h2:=tk_sureQ N 1 [] c1 h1.2
   cases hn:tk 1 [] c1 with
   | bad a e=>rw[hn] at h2;rw[chg_bad2 ho hn];exact h2
   | ok t c2 =>
     rw[hn] at h2
     have h3:=list_sureQ (lit_sure N) c2 h2.2
     cases hl:listP litP c2 with
     | bad a e=>rw[hl] at h3;rw[chg_bad3 ho hn hl];exact h3
     | ok l c3 =>
       rw[hl] at h3
       rw[chg_ok ho hn hl]
       exact⟨⟨h2.1.1.1.1 h2.1.2,h3.1,h1.1.1.2⟩,h3.2⟩
theorem chgs_sure (N:Nat):SureQ N chgsP (fun l=>∀ z∈l,ChgR N z):=by
 intro c h
 unfold chgsP
 split
 ·exact⟨by simp,h⟩
 ·exact some_sureQ (chg_sure N) c h
theorem overB_range {N:Nat} {l:List ChP} (h:∀ z∈l,ChgR N z) (hl:256<l.length):0<=overP l/\overP l<=N:=by
 unfold overP
 obtain⟨z,hz⟩:∃ z,l[256]? = some z:=⟨_,List.getElem?_eq_getElem hl⟩
 rw[hz]
 exact⟨(h z (List.mem_of_getElem? hz)).2.2.1,(h z (List.mem_of_getElem? hz)).2.2.2⟩
theorem chkB_few {l:List ChP} (h:l.length<=256):chkB l=.ok (l.map (·.1)) []:=by
 unfold chkB
 rw[overB_few h]
 rfl
theorem chkB_many {N:Nat} {l:List ChP} (h:∀ z∈l,ChgR N z) (hl:256<l.length):chkB l=.bad (overP l) 100:=by
 unfold chkB
 rw[if_pos (overB_range h hl).1]
theorem batchT_sure {N:Nat} {ts:List Tok} (h:TInvQ N ts):match batchT ts with
 | .bad a e=>0<=a/\a<=N/\e≠0
 | .ok b _=>b.length<=256/\∀ c∈b,isNameB c.rel=true/\∀ u∈c.row,validB u.k u.n u.t=true/\RangeV u:=by
 have h1:=chgs_sure N ts h
 cases hc:chgsP ts with
 | bad a e=>rw[hc] at h1;rw[batchT_bad1 hc];exact h1
 | ok l c1 =>
   rw[hc] at h1
   have h2:=tk_sureQ N 0 [] c1 h1.2
   cases ht:tk 0 [] c1 with
   | bad a e=>rw[ht] at h2;rw[batchT_bad2 hc ht];exact h2
   | ok u c2 =>
     rw[batchT_ok hc ht]
     by_cases hl:256<l.length
     ·rw[chkB_many h1.1 hl]
      have:=overB_range h1.1 hl
      exact⟨this.1,this.2,by decide⟩
     ·rw[chkB_few (by omega)]
      refine⟨by rw[List.length_map];omega,fun c hcm=>?_⟩
      obtain⟨z,hz,rfl⟩:=List.mem_map.1 hcm
      have:=h1.1 z hz
      exact⟨this.1,this.2.1⟩
end Go.Proofs.YtamjadghncnbcaaGreatDoor
