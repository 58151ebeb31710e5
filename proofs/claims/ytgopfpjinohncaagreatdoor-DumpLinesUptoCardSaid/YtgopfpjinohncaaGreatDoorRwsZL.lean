/- A list of rows as an argument, opened. A row of one-cell elements of the call's own before and behind the library's sort: no program in sight. Rows in a slice of the call's own. row.Arrange's closure and slices.CompactFunc at Row, walked (printed by mkcpt.py). -/
import Derived.Test.YtgopfpjinohncaaGreatDoorGlL
import Derived.Test.YtgopfpjinohncaaGreatDoorGhL
import Derived.Test.YtgopfpjinohncaaGreatDoorGbL
import Derived.Test.YtgopfpjinohncaaGreatDoorShelfZL
import Derived.Test.YtgopfpjinohncaaGreatDoorCyL
import Derived.Test.YtgopfpjinohncaaGreatDoorNaL
import Derived.Test.YtgopfpjinohncaaGreatDoorGaL
import Derived.Test.YtgopfpjinohncaaGreatDoorSkgZL
import Derived.Shelf.GgSortFunc.Insertion
import Derived.Laws.OwnMore
namespace Go.Proofs.YtgopfpjinohncaaGreatDoor
open Go.ChangeShapes Go.WideShapes Go.ChangeAt Go.RowKit Go.Deep
set_option linter.unusedVariables false
def VRowC (w:World) (cells:List Value) (r:List Vl):Prop:=∃ rv,cells=[rv]/\RowAt w rv 3 (r.map Vl.cells)/\r.length<=4398046511104
def RowsAt (w:World) (v:Value) (l:List (List Vl)):Prop:=∃ rows,RowAt w v 1 rows/\All2 (VRowC w) rows l
theorem VRowC.keep {w w':World} {row:List Value} {a:List Vl} (h:VRowC w row a) (hb:Below w.heap.size w w'):VRowC w' row a:=by
 obtain⟨cv,rfl,h2,h3⟩:=h
 exact⟨cv,rfl,RowAt.keep h2 hb,h3⟩
theorem RowsAt.keep {w w':World} {v:Value} {l:List (List Vl)} (h:RowsAt w v l) (hb:Below w.heap.size w w'):RowsAt w' v l:=by
 obtain⟨rows,h1,h2⟩:=h
 exact⟨rows,h1.keep hb,h2.mono fun b a hh=>hh.keep hb⟩
theorem RowsAt.form {w:World} {v:Value} {l:List (List Vl)} (h:RowsAt w v l):∃ (ad:Option Addr) (cap:Nat),v=.slice ad l.length cap/\l.length<=cap/\cap<=maxLen:=by
 obtain⟨rows,h1,h2⟩:=h
 obtain⟨ad,cap,hv,h3,h4⟩:=h1.form
 rw[h2.length] at hv h3
 exact⟨ad,cap,hv,h3,h4⟩
theorem RowsAt.get {w:World} {v:Value} {l:List (List Vl)} (h:RowsAt w v l) {i:Nat} {a:List Vl} (hi:l[i]? = some a):∃ (b off cap:Nat) (rv:Value),v=.slice (some ⟨b,off,none⟩) l.length cap/\l.length<=cap/\cap<=maxLen/\b<w.heap.size /\
 w.cell? ⟨b,off+i * 1,none⟩=some rv/\RowAt w rv 3 (a.map Vl.cells)/\a.length<=4398046511104:=by
 obtain⟨rows,h1,h2⟩:=h
 obtain⟨row,hr,rv,rfl,h3,h4⟩:=h2.get hi
 obtain⟨b,off,cap,hv,h5,h6,h7,h8⟩:=h1.get hr
 rw[h2.length] at hv h5
 exact⟨b,off,cap,rv,hv,h5,h6,h7,h8 0 _ rfl,h3,h4⟩
end Go.Proofs.YtgopfpjinohncaaGreatDoor
namespace Go.Proofs.YtgopfpjinohncaaGreatDoor
open Go.RowKit Go.Sort
set_option linter.unusedVariables false
section
variable {α : Type} [Inhabited α] {enc : α -> Value}
theorem own_holds1 {w:World} {base g cap n:Nat} {e:TypeId} {d:Array α} (ho:w.ownsRow base e 1 (.slice (some ⟨g,0,none⟩) n cap) n (d.toList.map enc)) (hd:d.size=n):Holds enc w g 0 d/\g<w.heap.size/\n<=cap:=by
 rcases ho.2 with ⟨h0,_⟩ | ⟨g',cap',cur,hv,hb,hg,h1,h2,h3,h4⟩
 ·simp at h0
 simp only[Value.slice.injEq,Option.some.injEq,Addr.mk.injEq,and_true,true_and] at hv
 obtain⟨rfl,rfl⟩:=hv
 refine⟨fun j hj=>⟨?_,by simp [World.frozen?,hg]⟩,(Array.getElem?_eq_some_iff.1 hg).1,h1⟩
 have h5:(cur.toList.take (n * 1))[j]? = (d.toList.map enc)[j]? := by rw[h4]
 rw[List.getElem?_take_of_lt (by omega),Array.getElem?_toList,List.getElem?_map,Array.getElem?_toList,Array.getElem?_eq_getElem (xs:=d) hj,<-getElem!_pos] at h5
 simp only[World.cell?,hg,Nat.zero_add]
 simpa using h5
theorem own_sorted1 {w:World} {base g cap n m:Nat} {e:TypeId} {os:Array Obj} {d':Array α} {xs:List Value} (ho:w.ownsRow base e 1 (.slice (some ⟨g,0,none⟩) n cap) n xs) (hd:d'.size=n) :
 (sortWorld enc w g 0 m d' os).ownsRow base e 1 (.slice (some ⟨g,0,none⟩) n cap) n (d'.toList.map enc)/\Mod (fun j=>j=g) w (sortWorld enc w g 0 m d' os):=by
 rcases ho.2 with ⟨h0,_⟩ | ⟨g',cap',cur,hv,hb,hg,h1,h2,h3,h4⟩
 ·simp at h0
 simp only[Value.slice.injEq,Option.some.injEq,Addr.mk.injEq,and_true,true_and] at hv
 obtain⟨rfl,rfl⟩:=hv
 have hgl:g<w.heap.size:=(Array.getElem?_eq_some_iff.1 hg).1
 have hw:sortWorld enc w g 0 m d' os=grow (putRow enc (Sort.ahead w m) g 0 d') os:=rfl
 refine⟨⟨by rw[List.length_map,Array.length_toList,hd,Nat.mul_one],.inr ⟨g,cap,putCells enc 0 d' cur,rfl,hb,?_,h1,h2,by simp [putCells,h3],?_⟩⟩,?_⟩
 ·rw[hw,heap_grow_old _ _ (by simpa using hgl)]
  simp [putRow,mapBlock,Sort.ahead,Array.getElem?_modify,hg,onCells]
 ·apply List.ext_getElem?
  intro j
  by_cases hj:j<n
  ·rw[List.getElem?_take_of_lt (by omega),Array.getElem?_toList,List.getElem?_map,Array.getElem?_toList,Array.getElem?_eq_getElem (xs:=d') (by omega),<-getElem!_pos]
   simp [putCells,hd,hj,show j<cur.size by omega]
  ·rw[List.getElem?_take_eq_none (by omega),List.getElem?_eq_none (by rw[List.length_map,Array.length_toList];omega)]
 ·refine⟨rfl,rfl,rfl,by rw[hw];simp,fun i hi hne=>?_⟩
  rw[hw,heap_grow_old _ _ (by simpa using hi)]
  have:g≠i:=fun e=>hne e.symm
  simp [putRow,mapBlock,Sort.ahead,Array.getElem?_modify,this]
end
end Go.Proofs.YtgopfpjinohncaaGreatDoor
namespace Go.Proofs.YtgopfpjinohncaaGreatDoor
open Go.RowKit
set_option linter.unusedVariables false
def RoC (w0:World) (x:Value) (r:List Vl):Prop:=RowAt w0 x 3 (r.map Vl.cells)/\r.length<=4398046511104
def RoS (w0 W:World) (g n cap:Nat) (M:List (List Vl)):Prop :=
 ∃ cells,W.ownsRow w0.heap.size 59 1 (.slice (some ⟨g,0,none⟩) n cap) n cells/\All2 (RoC w0) cells M/\Below w0.heap.size w0 W
set_option maxHeartbeats 4000000 in
set_option maxRecDepth 100000 in
theorem arrEq_any (W:World) (a b:List Vl) (ra rb:Value) (h:RowAt W ra 3 (a.map Vl.cells)) (h2:RowAt W rb 3 (b.map Vl.cells)) :
 Calls Tryz.prog 95 #[ra,rb] W fun e W'=>e=.returned (.bool (decide (cmpRow a b=0)))/\Below W.heap.size W W':=by
 have hsm:=rowCompare_any W ra rb a b h h2
 obtain⟨xa,xc,rfl,_,_⟩:=h.form
 obtain⟨ua,uc,rfl,_,_⟩:=h2.form
 have HSM:=Lib.hid hsm
 clear h h2 hsm
 generalize (a.map Vl.cells).length=n at *
 generalize (b.map Vl.cells).length=m at *
 generalize cmpRow a b=r at *
 go_enter Tryz.func95,Tryz.ntmps95
 go_wp2_with fail
 refine HSM.out.mono ?_
 rintro e w6 ⟨rfl,hb6⟩
 have HB6:=Lib.hid hb6
 clear hb6
 go_wp2_with fail
 go_ret
 refine⟨?_,HB6.out⟩
 by_cases h0:r=0<;>simp [h0]
theorem zeroRow (w:World):(zeroValue 59).run Tryz.prog w=.ok (.slice none 0 0) w:=by kernel_rfl
theorem own1_get {w:World} {B:Nat} {e:TypeId} {g n cap:Nat} {R:List Value} (h:w.ownsRow B e 1 (.slice (some ⟨g,0,none⟩) n cap) n R) {k:Nat} {x:Value} (hk:R[k]? = some x):w.cell? ⟨g,k,none⟩=some x/\g<w.heap.size:=by
 rcases h.2 with ⟨q,_⟩ | ⟨g',cap',cur,hv,hb,hg,h1,h2,h3,h4⟩
 ·simp at q
 simp only[Value.slice.injEq,Option.some.injEq,Addr.mk.injEq,and_true,true_and] at hv
 obtain⟨rfl,rfl⟩:=hv
 refine⟨?_,(Array.getElem?_eq_some_iff.1 hg).1⟩
 have hl:=h.1
 have hkl:=(List.getElem?_eq_some_iff.1 hk).1
 have h5:(cur.toList.take (n * 1))[k]? = some x:=by rw[h4];exact hk
 rw[List.getElem?_take_of_lt (by omega),Array.getElem?_toList] at h5
 simp only[World.cell?,hg]
 simpa using h5
theorem own1_set {w:World} {B:Nat} {e:TypeId} {g n cap:Nat} {R:List Value} (h:w.ownsRow B e 1 (.slice (some ⟨g,0,none⟩) n cap) n R) (k:Nat) (x:Value):(w.setCell ⟨g,k,none⟩ x).ownsRow B e 1 (.slice (some ⟨g,0,none⟩) n cap) n (R.set k x)/\Mod (fun j=>j=g) w (w.setCell ⟨g,k,none⟩ x) :=
 ⟨(h.stored k x).1,(Mod.refl (fun j=>j=g) w).setCell (p:=⟨g,k,none⟩) (fun _=>rfl) x⟩
theorem clear_tail1 {P:Program} {w:World} {t e:TypeId} {g n cap base i c:Nat} {z:Value} {R:List Value} (ht:P.underlying t=some (.slice e)) (hv:∀ w,(zeroValue e).run P w=.ok z w) (hz:z.oneCell'=true) (hzc:z.cells=#[z])
 (ho:w.ownsRow base e 1 (.slice (some ⟨g,0,none⟩) n cap) n R) (hi:i<n) :
 ∃ w',(∀ ty,(Builtin.clear_ #[t] ty #[.slice (some ⟨g,i,none⟩) (n - i) c]).run P w=.ok (.tuple #[]) w')/\w'.ownsRow base e 1 (.slice (some ⟨g,0,none⟩) i cap) i (R.take i)/\Mod (fun j=>j=g) w w':=by
 rcases ho.2 with ⟨h0,_⟩ | ⟨g',cap',cur,hv',hb,hg,hnc,hcm,hsz,htk⟩
 ·simp at h0
 simp only[Value.slice.injEq,Option.some.injEq,Addr.mk.injEq,and_true,true_and] at hv'
 obtain⟨rfl,rfl⟩:=hv'
 have hl:=ho.1
 have hzs:(Builtin.zeroCells #[z] (n - i)).toList.length=n - i:=by rw[Array.length_toList,size_zeroCells,List.size_toArray];simp
 have hst:=run_storeCells_at P g i e (Builtin.zeroCells #[z] (n - i)).toList 0 cur w hg (by rw[hzs,hsz];omega) (zero_cells (z:=[z]) (by simpa using hz) (by simp) _)
 simp only[Nat.add_zero] at hst
 refine⟨w.setRow g (cur.toList.take i++(Builtin.zeroCells #[z] (n - i)).toList++cur.toList.drop (i+(Builtin.zeroCells #[z] (n - i)).toList.length)).toArray,fun ty=>?_,⟨by rw[List.length_take];omega,.inr ⟨g,cap,_,rfl,hb,setRow_heap w g _ _ e _ hg,by omega,hcm,?_,?_⟩⟩,mod_setRow w g _⟩
 rotate_left
 ·rw[List.size_toArray,List.length_append,List.length_append,hzs,List.length_take,List.length_drop,Array.length_toList,hsz]
  omega
 ·show List.take (i * 1) (cur.toList.take i++_++_)=_
  rw[<-htk,Nat.mul_one,Nat.mul_one,List.take_take,Nat.min_eq_left (by omega),List.append_assoc,List.take_append_of_le_length (by rw[List.length_take,Array.length_toList,hsz];omega),List.take_take,Nat.min_self]
 ·generalize hm:n - i=m at *
  obtain⟨m',rfl⟩:∃ m',m=m'+1:=⟨m - 1,by omega⟩
  simp [Builtin.clear_,run_underlying ht,hv,hzc,hst]
theorem keep_one {M:List (List Vl)} (h:M.length<2):keepN (cptHit M) 0 M=M:=by
 refine keepN_none 0 M fun j _ hj=>?_
 obtain rfl:j=0:=by omega
 rfl
theorem all2_keepP {α β:Type} {p:Nat->Bool} {R:α->β->Prop}:∀ (i:Nat) {l:List α} {m:List β},All2 R l m->All2 R (keepN p i l) (keepN p i m)
 | _,[],[],_=>trivial
 | i,x::l,y::m,h=>by
   have ih:=all2_keepP (p:=p) (i+1) h.2
   unfold keepN
   cases hp:p i with
   | true=>rw[if_pos rfl,if_pos rfl];exact ih
   | false=>rw[if_neg (by decide),if_neg (by decide)];exact⟨h.1,ih⟩
 | _,[],_::_,h=>h.elim
 | _,_::_,[],h=>h.elim
end Go.Proofs.YtgopfpjinohncaaGreatDoor
