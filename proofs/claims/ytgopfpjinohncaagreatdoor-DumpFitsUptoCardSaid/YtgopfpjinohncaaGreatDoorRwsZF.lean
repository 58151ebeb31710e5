/- A list of rows as an argument, opened. -/
import Derived.Test.YtgopfpjinohncaaGreatDoorRaF
import Derived.Test.YtgopfpjinohncaaGreatDoorDm0ZF
set_option maxHeartbeats 4000000
set_option maxRecDepth 100000
set_option linter.unusedVariables false
namespace Go.Proofs.YtgopfpjinohncaaGreatDoor
open Go.ChangeShapes Go.WideShapes Go.ChangeAt Go.RowKit Go.Deep
def nK (w:World) (cells:List Value) (r:List Vl):Prop:=∃ rv,cells=[rv]/\aj w rv 3 (r.map Vl.cells)/\r.length<=4398046511104
def cq (w:World) (v:Value) (l:List (List Vl)):Prop:=∃ rows,aj w v 1 rows/\aH (nK w) rows l
theorem nK.keep {w w':World} {row:List Value} {a:List Vl} (h:nK w row a) (hb:Below w.heap.size w w'):nK w' row a:=by
 obtain⟨cv,rfl,h2,h3⟩:=h
 exact⟨cv,rfl,aj.keep h2 hb,h3⟩
theorem cq.keep {w w':World} {v:Value} {l:List (List Vl)} (h:cq w v l) (hb:Below w.heap.size w w'):cq w' v l:=by
 obtain⟨rows,h1,h2⟩:=h
 exact⟨rows,h1.keep hb,h2.mono fun b a hh=>hh.keep hb⟩
theorem cq.form {w:World} {v:Value} {l:List (List Vl)} (h:cq w v l):∃ (ad:Option Addr) (cap:Nat),v=.slice ad l.length cap/\l.length<=cap/\cap<=maxLen:=by
 obtain⟨rows,h1,h2⟩:=h
 obtain⟨ad,cap,hv,h3,h4⟩:=h1.form
 rw[h2.length] at hv h3
 exact⟨ad,cap,hv,h3,h4⟩
theorem cq.get {w:World} {v:Value} {l:List (List Vl)} (h:cq w v l) {i:Nat} {a:List Vl} (hi:l[i]? = some a):∃ (b off cap:Nat) (rv:Value),v=.slice (some ⟨b,off,none⟩) l.length cap/\l.length<=cap/\cap<=maxLen/\b<w.heap.size /\
 w.cell? ⟨b,off+i * 1,none⟩=some rv/\aj w rv 3 (a.map Vl.cells)/\a.length<=4398046511104:=by
 obtain⟨rows,h1,h2⟩:=h
 obtain⟨row,hr,rv,rfl,h3,h4⟩:=h2.get hi
 obtain⟨b,off,cap,hv,h5,h6,h7,h8⟩:=h1.get hr
 rw[h2.length] at hv h5
 exact⟨b,off,cap,rv,hv,h5,h6,h7,h8 0 _ rfl,h3,h4⟩
end Go.Proofs.YtgopfpjinohncaaGreatDoor
namespace Go.Proofs.YtgopfpjinohncaaGreatDoor
open Go.RowKit
def C0 (w0:World) (x:Value) (r:List Vl):Prop:=aj w0 x 3 (r.map Vl.cells)/\r.length<=4398046511104
def Ey (w0 W:World) (g n cap:Nat) (M:List (List Vl)):Prop :=
 ∃ cells,W.ownsRow w0.heap.size 59 1 (.slice (some ⟨g,0,none⟩) n cap) n cells/\aH (C0 w0) cells M/\Below w0.heap.size w0 W
theorem pT (W:World) (a b:List Vl) (ra rb:Value) (h:aj W ra 3 (a.map Vl.cells)) (h2:aj W rb 3 (b.map Vl.cells)) :
 Calls Tryz.prog 95 #[ra,rb] W fun e W'=>e=.returned (.bool (decide (aw a b=0)))/\Below W.heap.size W W':=by
 have hsm:=nP W ra rb a b h h2
 obtain⟨xa,xc,rfl,_,_⟩:=h.form
 obtain⟨ua,uc,rfl,_,_⟩:=h2.form
 have HSM:=Fx hsm
 clear h h2 hsm
 generalize (a.map Vl.cells).length=n at *
 generalize (b.map Vl.cells).length=m at *
 generalize aw a b=r at *
 go_enter Tryz.func95,Tryz.ntmps95
 go_wp2_with fail
 refine HSM.out.mono ?_
 rintro e w6 ⟨rfl,hb6⟩
 have HB6:=Fx hb6
 clear hb6
 go_wp2_with fail
 go_ret
 refine⟨?_,HB6.out⟩
 by_cases h0:r=0<;>simp [h0]
theorem Cm (w:World):(zeroValue 59).run Tryz.prog w=.ok (.slice none 0 0) w:=by kernel_rfl
theorem dU {w:World} {B:Nat} {e:TypeId} {g n cap:Nat} {R:List Value} (h:w.ownsRow B e 1 (.slice (some ⟨g,0,none⟩) n cap) n R) {k:Nat} {x:Value} (hk:R[k]? = some x):w.cell? ⟨g,k,none⟩=some x/\g<w.heap.size:=by
 rcases h.2 with ⟨q,_⟩ | ⟨g',cap',cur,hv,hb,hg,h1,h2,h3,h4⟩
 ·simp at q
 simp only[Value.slice.injEq,Option.some.injEq,Addr.mk.injEq,and_true,true_and] at hv
 obtain⟨rfl,rfl⟩:=hv
 refine⟨?_,(Array.getElem?_eq_some_iff.1 hg).1⟩
 have hl:=h.1
 have hkl:=(FE hk).1
 have h5:(cur.toList.take (n * 1))[k]? = some x:=by rw[h4];exact hk
 rw[List.getElem?_take_of_lt (by omega),Array.getElem?_toList] at h5
 simp only[World.cell?,hg]
 simpa using h5
theorem ow {w:World} {B:Nat} {e:TypeId} {g n cap:Nat} {R:List Value} (h:w.ownsRow B e 1 (.slice (some ⟨g,0,none⟩) n cap) n R) (k:Nat) (x:Value):(w.setCell ⟨g,k,none⟩ x).ownsRow B e 1 (.slice (some ⟨g,0,none⟩) n cap) n (R.set k x)/\aq (fun j=>j=g) w (w.setCell ⟨g,k,none⟩ x) :=
 ⟨(h.stored k x).1,(aq.refl (fun j=>j=g) w).setCell (p:=⟨g,k,none⟩) (fun _=>rfl) x⟩
theorem tA {P:Program} {w:World} {t e:TypeId} {g n cap base i c:Nat} {z:Value} {R:List Value} (ht:P.underlying t=some (.slice e)) (hv:∀ w,(zeroValue e).run P w=.ok z w) (hz:z.oneCell'=true) (hzc:z.cells=#[z])
 (ho:w.ownsRow base e 1 (.slice (some ⟨g,0,none⟩) n cap) n R) (hi:i<n) :
 ∃ w',(∀ ty,(Builtin.clear_ #[t] ty #[.slice (some ⟨g,i,none⟩) (n - i) c]).run P w=.ok (.tuple #[]) w')/\w'.ownsRow base e 1 (.slice (some ⟨g,0,none⟩) i cap) i (R.take i)/\aq (fun j=>j=g) w w':=by
 rcases ho.2 with ⟨h0,_⟩ | ⟨g',cap',cur,hv',hb,hg,hnc,hcm,hsz,htk⟩
 ·simp at h0
 simp only[Value.slice.injEq,Option.some.injEq,Addr.mk.injEq,and_true,true_and] at hv'
 obtain⟨rfl,rfl⟩:=hv'
 have hl:=ho.1
 have hzs:(Builtin.zeroCells #[z] (n - i)).toList.length=n - i:=by rw[Array.length_toList,size_zeroCells,List.size_toArray];simp
 have hst:=run_storeCells_at P g i e (Builtin.zeroCells #[z] (n - i)).toList 0 cur w hg (by rw[hzs,hsz];omega) (um (z:=[z]) (by simpa using hz) (by simp) _)
 simp only[Nat.add_zero] at hst
 refine⟨w.setRow g (cur.toList.take i++(Builtin.zeroCells #[z] (n - i)).toList++cur.toList.drop (i+(Builtin.zeroCells #[z] (n - i)).toList.length)).toArray,fun ty=>?_,⟨by rw[List.length_take];omega,.inr ⟨g,cap,_,rfl,hb,setRow_heap w g _ _ e _ hg,by omega,hcm,?_,?_⟩⟩,fp w g _⟩
 rotate_left
 ·rw[List.size_toArray,List.length_append,List.length_append,hzs,List.length_take,List.length_drop,Array.length_toList,hsz]
  omega
 ·show List.take (i * 1) (cur.toList.take i++_++_)=_
  rw[<-htk,Nat.mul_one,Nat.mul_one,List.take_take,Nat.min_eq_left (by omega),List.append_assoc,List.take_append_of_le_length (by rw[List.length_take,Array.length_toList,hsz];omega),List.take_take,Nat.min_self]
 ·generalize hm:n - i=m at *
  obtain⟨m',rfl⟩:∃ m',m=m'+1:=⟨m - 1,by omega⟩
  simp [Builtin.clear_,run_underlying ht,hv,hzc,hst]
theorem ub {M:List (List Vl)} (h:M.length<2):cy (cd M) 0 M=M:=by
 refine ft 0 M fun j _ hj=>?_
 obtain rfl:j=0:=by omega
 rfl
theorem oA {α β:Type} {p:Nat->Bool} {R:α->β->Prop}:∀ (i:Nat) {l:List α} {m:List β},aH R l m->aH R (cy p i l) (cy p i m)
 | _,[],[],_=>trivial
 | i,x::l,y::m,h=>by
   have ih:=oA (p:=p) (i+1) h.2
   unfold cy
   cases hp:p i with
   | true=>rw[if_pos rfl,if_pos rfl];exact ih
   | false=>rw[if_neg (by decide),if_neg (by decide)];exact⟨h.1,ih⟩
 | _,[],_::_,h=>h.elim
 | _,_::_,[],h=>h.elim
