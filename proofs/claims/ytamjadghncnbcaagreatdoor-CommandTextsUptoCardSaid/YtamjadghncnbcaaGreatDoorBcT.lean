/- Batches of changes: what they are in memory; what is told of them, plainly. What change.Parse tells, plainly. What is read of a batch is right; a batch's text is read back: plainly. -/
import Derived.Test.YtamjadghncnbcaaGreatDoorGmT
import Derived.Test.YtamjadghncnbcaaGreatDoorJyT
import Derived.Test.YtamjadghncnbcaaGreatDoorKaT
import Derived.Test.YtamjadghncnbcaaGreatDoorGaT
namespace Go.Proofs.YtamjadghncnbcaaGreatDoor
open Go.RowKit
set_option linter.unusedVariables false
structure Chg where
 add:Bool
 rel:List UInt8
 row:List Vl
deriving DecidableEq
def ChgC (w:World) (cells:List Value) (c:Chg):Prop:=∃ rv,cells=[.bool c.add,.string ⟨c.rel.toArray⟩,rv]/\RowAt w rv 3 (c.row.map Vl.cells)/\c.row.length<=4398046511104
def ChgsAt (w:World) (v:Value) (l:List Chg):Prop:=∃ rows,RowAt w v 3 rows/\All2 (ChgC w) rows l
theorem ChgC.keep {w w':World} {row:List Value} {a:Chg} (h:ChgC w row a) (hb:Below w.heap.size w w'):ChgC w' row a:=by
 obtain⟨rv,rfl,h2,h3⟩:=h
 exact⟨rv,rfl,h2.keep hb,h3⟩
theorem ChgsAt.keep {w w':World} {v:Value} {l:List Chg} (h:ChgsAt w v l) (hb:Below w.heap.size w w'):ChgsAt w' v l:=by
 obtain⟨rows,h1,h2⟩:=h
 exact⟨rows,h1.keep hb,h2.mono fun b a hh=>hh.keep hb⟩
theorem ChgsAt.form {w:World} {v:Value} {l:List Chg} (h:ChgsAt w v l):∃ (ad:Option Addr) (cap:Nat),v=.slice ad l.length cap/\l.length<=cap/\cap<=maxLen:=by
 obtain⟨rows,h1,h2⟩:=h
 obtain⟨ad,cap,hv,h3,h4⟩:=h1.form
 rw[h2.length] at hv h3
 exact⟨ad,cap,hv,h3,h4⟩
theorem ChgsAt.get {w:World} {v:Value} {l:List Chg} (h:ChgsAt w v l) {i:Nat} {a:Chg} (hi:l[i]? = some a):∃ (b off cap:Nat) (rv:Value),v=.slice (some ⟨b,off,none⟩) l.length cap/\l.length<=cap/\cap<=maxLen/\b<w.heap.size /\
 w.cell? ⟨b,off+i * 3,none⟩=some (.bool a.add)/\w.cell? ⟨b,off+i * 3+1,none⟩=some (.string ⟨a.rel.toArray⟩)/\w.cell? ⟨b,off+i * 3+2,none⟩=some rv/\RowAt w rv 3 (a.row.map Vl.cells)/\a.row.length<=4398046511104:=by
 obtain⟨rows,h1,h2⟩:=h
 obtain⟨row,hr,rv,rfl,h3,h4⟩:=h2.get hi
 obtain⟨b,off,cap,hv,h5,h6,h7,h8⟩:=h1.get hr
 rw[h2.length] at hv h5
 exact⟨b,off,cap,rv,hv,h5,h6,h7,h8 0 _ rfl,h8 1 _ rfl,h8 2 _ rfl,h3,h4⟩
theorem ChgsAt.len {w:World} {v:Value} {l:List Chg} (h:ChgsAt w v l):l.length<=8796093022208:=by
 obtain⟨rows,h1,h2⟩:=h
 rw[<-h2.length]
 exact h1.len
theorem ChgsAt.nil (w:World):ChgsAt w (.slice none 0 0) []:=⟨[],RowAt.nil _ _,trivial⟩
theorem ChgsAt.rows {w:World} {v:Value} {l:List Chg} (h:ChgsAt w v l):∀ c∈l,c.row.length<=4398046511104:=by
 intro c hc
 obtain⟨i,hi⟩:=List.getElem?_of_mem hc
 obtain⟨_,_,_,_,_,_,_,_,_,_,_,_,h9⟩:=h.get hi
 exact h9
def ChgO (B:Nat) (w:World) (row:List Value) (c:Chg):Prop:=∃ rv,row=[.bool c.add,.string ⟨c.rel.toArray⟩,rv]/\w.ownsRow B 69 3 rv c.row.length (c.row.map Vl.cells).flatten
def ChgsOwn (B:Nat) (w:World) (v:Value) (l:List Chg):Prop :=
 ∃ rows:List (List Value),w.ownsRow B 51 3 v l.length rows.flatten/\All2 (ChgO B w) rows l
theorem ChgO.mt {B B':Nat} {w w':World} {row:List Value} {a:Chg} {Ts:List TypeId} (h:ChgO B w row a) (hm:MT B' Ts w w') (ht:69 ∉ Ts):ChgO B w' row a:=by
 obtain⟨rv,rfl,h2⟩:=h
 exact⟨rv,rfl,hm.ownsRow h2 ht⟩
theorem ChgO.low {B B':Nat} {w:World} {row:List Value} {a:Chg} (h:ChgO B w row a) (hb:B'<=B):ChgO B' w row a:=by
 obtain⟨rv,rfl,h2⟩:=h
 exact⟨rv,rfl,World.ownsRow.low h2 hb⟩
theorem ChgsOwn.low {B B':Nat} {w:World} {v:Value} {l:List Chg} (h:ChgsOwn B w v l) (hb:B'<=B):ChgsOwn B' w v l:=by
 obtain⟨rows,h1,h2⟩:=h
 exact⟨rows,World.ownsRow.low h1 hb,h2.mono fun b x hh=>hh.low hb⟩
theorem ChgsOwn.mt {B B':Nat} {w w':World} {v:Value} {l:List Chg} {Ts:List TypeId} (h:ChgsOwn B w v l) (hm:MT B' Ts w w') (h1:51 ∉ Ts) (h2:69 ∉ Ts):ChgsOwn B w' v l:=by
 obtain⟨rows,h3,h4⟩:=h
 exact⟨rows,hm.ownsRow h3 h1,h4.mono fun b x hh=>hh.mt hm h2⟩
theorem ChgsOwn.at {B:Nat} {w:World} {v:Value} {l:List Chg} (h:ChgsOwn B w v l) (hl:l.length<=8796093022208) (hr:∀ c∈l,c.row.length<=4398046511104):ChgsAt w v l:=by
 obtain⟨rows,h1,h2⟩:=h
 have hll:=h2.length
 refine⟨rows,RowAt.ofOwn h1 hll.symm ?_ (by omega),all2_and h2 fun c x hx hh=>?_⟩
 ·intro c hc
  obtain⟨x,_,rv,rfl,_⟩:=all2_mem h2 c hc
  rfl
 ·obtain⟨rv,rfl,ho⟩:=hh
  have hx2:=hr x hx
  exact⟨rv,rfl,RowAt.ofOwn ho (by simp) (vl_len _) (by simp;omega),hx2⟩
def badV (u:Vl):Bool := !validB u.k u.n u.t
def rowB (l:List Vl):Bool:=decide (l.length<=30) && !l.any badV
def showV (u:Vl):List UInt8:=showR u.k u.n u.t
def rowT0 (l:List Vl):List UInt8:=40::(Lib.join (l.map showV) [44,32]++[41])
def showRow (l:List Vl):List UInt8:=if rowB l=true then rowT0 l else []
def goodC (c:Chg):Bool:=isNameB c.rel && rowB c.row
def chgT (c:Chg):List UInt8:=(if c.add=true then 43 else 45)::(c.rel++rowT0 c.row)
def showBt (b:List Chg):List UInt8:=if b.all goodC=true then Lib.join (b.map chgT) [44,32] else []
def RangeV (u:Vl):Prop := -9223372036854775808<=u.n/\u.n<=9223372036854775807
def RangeB (b:List Chg):Prop:=∀ c∈b,∀ u∈c.row,RangeV u
theorem rowB_all {l:List Vl} (h:rowB l=true):l.length<=30/\∀ u∈l,validB u.k u.n u.t=true:=by
 unfold rowB at h
 rw[Bool.and_eq_true,decide_eq_true_eq] at h
 refine⟨h.1,fun u hu=>?_⟩
 have h2:l.any badV=false:=by simpa using h.2
 have:=List.any_eq_false.1 h2 u hu
 unfold badV at this
 simpa using this
theorem goodC_all {c:Chg} (h:goodC c=true):isNameB c.rel=true/\rowB c.row=true:=by
 unfold goodC at h
 simpa using h
theorem showV_len {l:List Vl} (h:rowB l=true) (hr:∀ u∈l,RangeV u):∀ u∈l,(showV u).length<=258:=fun u hu=>showR_len ((rowB_all h).2 u hu) (hr u hu).1 (hr u hu).2
theorem rowT_size {l:List Vl} (h:rowB l=true) (hr:∀ u∈l,RangeV u):(Lib.join (l.map showV) [44,32]).length<=7800/\(rowT0 l).length<=7802:=by
 have h1:=join_len (b:=258) (l.map showV) (fun x hx=>by
  obtain⟨u,hu,rfl⟩:=List.mem_map.1 hx
  exact showV_len h hr u hu)
 have h2:=(rowB_all h).1
 rw[List.length_map] at h1
 have h3:(Lib.join (l.map showV) [44,32]).length<=7800:=by omega
 refine⟨h3,?_⟩
 unfold rowT0
 simp only[List.length_cons,List.length_append,List.length_nil]
 omega
theorem chgT_size {c:Chg} (h:goodC c=true) (hr:∀ u∈c.row,RangeV u):(chgT c).length<=7819:=by
 obtain⟨h1,h2⟩:=goodC_all h
 have h3:=(rowT_size h2 hr).2
 have h4:=(name_len16 h1).2
 unfold chgT
 simp only[List.length_cons,List.length_append]
 omega
abbrev ChP:=Chg × Int
def litP (c:List Tok):PR Vl:=match tk 2 [] c with
 | .bad a e=>.bad a e
 | .ok t c1=>.ok ⟨t.vk,t.vn,t.vt⟩ c1
def overP (l:List ChP):Int:=match l[256]? with
 | some z=>z.2
 | none => -1
end Go.Proofs.YtamjadghncnbcaaGreatDoor
