/- A command that can be read; osierref25.Same at commands of one content, walked; osierlaw25.of. SchemaParses, walked. command.Parse, walked (printed by mkcd4.py): its frame; lines that are no commands. command.Parse at every line. A command as an argument, opened with the sizes of its texts. -/
import Derived.Test.YtgopfpjinohncaaGreatDoorDaV
import Derived.Test.YtgopfpjinohncaaGreatDoorGmV
import Derived.Test.YtgopfpjinohncaaGreatDoorGnV
import Derived.Test.YtgopfpjinohncaaGreatDoorJyV
import Derived.Test.YtgopfpjinohncaaGreatDoorKfV
import Derived.Test.YtgopfpjinohncaaGreatDoorKdV
import Derived.Test.YtgopfpjinohncaaGreatDoorLfV
import Derived.Test.YtgopfpjinohncaaGreatDoorDbV
import Derived.Test.YtgopfpjinohncaaGreatDoorGaV
import Derived.Test.YtgopfpjinohncaaGreatDoorBaV
import Derived.Test.YtgopfpjinohncaaGreatDoorBbV
import Derived.Test.YtgopfpjinohncaaGreatDoorGhV
import Derived.Deep.RegionHeld3
import Derived.Deep.RegionLaw
import Derived.BigQuiet
import Derived.KernelRfl
namespace Go.Proofs.YtgopfpjinohncaaGreatDoor
open Go.RowKit
set_option linter.unusedVariables false
def CmdAt (w:World) (cells:Array Value) (c:Cmd):Prop :=
 ∃ cv hv av bv rv,cells=#[.int .i64 c.kind,.string ⟨c.rel.name.toArray⟩,cv,.string ⟨c.q.name.toArray⟩,hv,av,bv,.string ⟨c.nm.toArray⟩,.int .i64 c.id,.int .i64 c.n,rv] /\
  RowAt w cv 2 (c.rel.cols.map Col.cells)/\StrsAt w hv c.q.head/\AtomsAt w av c.q.atoms/\ChgsAt w bv c.b/\RowAt w rv 3 (c.row.map Vl.cells)
theorem sch_any (s:ByteArray) (w:World) (hs:s.size<=281474976710656) (hg:Glob w) :
 Calls Tryz.prog 59 #[.string s] w (SPost w (refS (startS (lexR s.data.toList)))):=by
 unfold startS
 by_cases he:(lexR s.data.toList).e=0
 ·rw[if_pos he,refS_ok (lex_ended he).1]
  exact sch_line s w hs hg he
 ·rw[if_neg he,refS_bad]
  exact sch_fault s w hs hg he
structure CF (w0 w:World) (cs:Array Value) (b tb r:Nat) (c:List Tok) (vt:Value) (tkk vk vn tp:Int) (xb vb:ByteArray):Prop where
 p:PCm w0 w0.heap.size cs w
 i:InB w b r
 k:Blk w tb 122 #[.int .i64 tkk,.string xb,.int .i64 vk,.int .i64 vn,.string vb,.int .i64 tp]
 rs:Rs w r c vt
 hr:w0.heap.size+3<=r
 hb:w0.heap.size+3<=b
 ht:w0.heap.size+3<=tb
section
variable {w0 w w' : World} {cs : Array Value} {b tb r : Nat} {c c' : List Tok} {vt : Value} {tkk vk vn tp : Int} {xb vb : ByteArray}
theorem CF.keep (h:CF w0 w cs b tb r c vt tkk vk vn tp xb vb) (hb:Below w.heap.size w w'):CF w0 w' cs b tb r c vt tkk vk vn tp xb vb :=
 ⟨h.p.keep hb,Blk.below h.i hb (Blk.lt h.i),h.k.below hb h.k.lt,h.rs.keep hb,h.hr,h.hb,h.ht⟩
theorem CF.take (h:CF w0 w cs b tb r c vt tkk vk vn tp xb vb) (hm:MT (w0.heap.size+3) [213] w w') (hr:Rs w' r c' vt):CF w0 w' cs b tb r c' vt tkk vk vn tp xb vb :=
 ⟨h.p.mt hm,Blk.mt h.i hm (by decide),h.k.mt hm (by decide),hr,h.hr,h.hb,h.ht⟩
theorem CF.store (h:CF w0 w cs b tb r c vt tkk vk vn tp xb vb) (i:Nat) (u:Value):CF w0 (w.setCell ⟨w0.heap.size,i,none⟩ u) (cs.setIfInBounds i u) b tb r c vt tkk vk vn tp xb vb:=by
 have h1:=h.hb
 have h2:=h.ht
 have m:MT 0 [61] w (w.setCell ⟨w0.heap.size,i,none⟩ u):=MT.setCell (MT.refl w) h.p.q (by simp) (Nat.zero_le _) _
 exact⟨h.p.store i u,Blk.mt h.i m (by decide),h.k.mt m (by decide),h.rs.mt m (by decide) (by decide),h.hr,h.hb,h.ht⟩
end
theorem inn_split {α:Type} {R:Nat->World->Value->α->Prop} {z:α} {fr:Int} {w w':World} {p:PR α} {e:Ending} (h:InnPost R z fr w p e w') (f:α->Cmd) :
 (∃ a e0,e=.panicked [{ v:=faultV (fr+a) e0,recovered:=false }]/\innerP fr z p f=.bad (fr+a) e0/\Below w.heap.size w w')∨(∃ v x,e=.returned v/\R w.heap.size w' v x/\innerP fr z p f=.ok (f x) []/\Below w.heap.size w w'):=by
 cases p with
 | bad a e0 =>
   obtain⟨h1,h2,h3⟩:=h
   by_cases q:e0=0
   ·obtain⟨v,h4,h5⟩:=h2 q
    exact .inr ⟨v,z,h4,h5,by unfold innerP;simp [q],h3⟩
   ·exact .inl ⟨a,e0,h1 q,by unfold innerP;simp [q],h3⟩
 | ok x c =>
   obtain⟨v,h1,h2,h3⟩:=h
   exact .inr ⟨v,x,h1,h2,rfl,h3⟩
theorem kindC_one {t:Tok} (h:kindC t≠0):t.k=1:=Decidable.byContradiction fun q=>h (kindC_name q)
theorem PCm.self {w0 w:World} {n:Nat} {x0 x1 x2 x3 x4 x5 x6 x7 x8 x9 x10:Value} (h:PCm w0 n #[x0,x1,x2,x3,x4,x5,x6,x7,x8,x9,x10] w) :
 ((((((((((w.setCell ⟨n,0,none⟩ x0).setCell ⟨n,1,none⟩ x1).setCell ⟨n,2,none⟩ x2).setCell ⟨n,3,none⟩ x3).setCell ⟨n,4,none⟩ x4).setCell ⟨n,5,none⟩ x5).setCell ⟨n,6,none⟩ x6).setCell ⟨n,7,none⟩ x7).setCell ⟨n,8,none⟩ x8).setCell ⟨n,9,none⟩ x9).setCell ⟨n,10,none⟩ x10=w:=by
 rw[setCell_self (i:=0) (v:=x0) h.q rfl,setCell_self (i:=1) (v:=x1) h.q rfl,setCell_self (i:=2) (v:=x2) h.q rfl,setCell_self (i:=3) (v:=x3) h.q rfl,setCell_self (i:=4) (v:=x4) h.q rfl,setCell_self (i:=5) (v:=x5) h.q rfl,setCell_self (i:=6) (v:=x6) h.q rfl,setCell_self (i:=7) (v:=x7) h.q rfl,setCell_self (i:=8) (v:=x8) h.q rfl,setCell_self (i:=9) (v:=x9) h.q rfl,setCell_self (i:=10) (v:=x10) h.q rfl]
def pS (l:List UInt8):PR Rln:=refS (startS (lexR l))
theorem pS_sure (l:List UInt8):match pS l with
 | .bad a e=>0<=a/\a<=l.length/\e≠0
 | .ok r _=>chkC r.name r.cols=0:=by
 unfold pS startS
 by_cases he:(lexR l).e=0
 ·rw[if_pos he,refS_ok (lex_ended he).1]
  exact schT_sure (lex_toks he (lex_ended he).1)
 ·rw[if_neg he,refS_bad]
  exact⟨(lex_place l he).1,(lex_place l he).2,he⟩
theorem extract_all (s:ByteArray) (n:Nat) (h:n<=s.size):(s.extract n s.size).data.toList=s.data.toList.drop n/\(s.extract n s.size).size<=s.size:=by
 have hl:s.data.toList.length=s.size:=rfl
 have e:(s.extract n s.size).data.toList=s.data.toList.drop n:=by
  rw[Lib.extract_data]
  exact List.take_of_length_le (by rw[List.length_drop];omega)
 refine⟨e,?_⟩
 have h2:(s.extract n s.size).size=(s.extract n s.size).data.toList.length:=rfl
 rw[h2,e,List.length_drop]
 omega
theorem tile_head {l:List UInt8} {t:Tok} {c:List Tok} (h:(lexR l).e=0) (hts:(lexR l).ts=t::c) (hk:t.k≠0):0<=t.p/\t.p.toNat+t.x.length<=l.length/\l.length<=16384:=by
 by_cases hl:16384<l.length
 ·rw[lexR_long hl] at h;simp at h
 ·rw[lexR_short (by omega)] at h hts
  have:=LX_tiles l l.length 0 (Nat.zero_le _) (by omega)
  rw[List.drop_zero,hts] at this
  have ht:=this h
  cases ht with
  | last=>exact absurd rfl hk
  | more h1 hp hb h2 hx h3 hk hr=>exact⟨by omega,by omega,by omega⟩
end Go.Proofs.YtgopfpjinohncaaGreatDoor
namespace Go.Proofs.YtgopfpjinohncaaGreatDoor
open Go.ChangeShapes Go.WideShapes Go.ChangeAt Go.RowKit Go.Deep Go.Joins
set_option linter.unusedVariables false
section
variable {H : Type} {enc : TypeId × Value -> H} {w : World} {spare : Nat -> Bool} {held : Bool}
set_option maxRecDepth 100000 in
theorem qry_openC {n:Nat} {row:List Value} {d:DataW H} {Pl:List MemPlace} (h:DataW.trod enc Tryz.prog w 0 spare held n 50 row=some (d,Pl)) (hs:Sz Tryz.prog 50 d) :
 ∃ (q:Qry) (hv av:Value),row=[.string ⟨q.name.toArray⟩,hv,av]/\StrsAt w hv q.head/\AtomsAt w av q.atoms/\q.atoms.length<=3518437208780/\q.name.length<=140737488351232/\(∀ s∈q.head,s.length<=140737488351232)/\∀ a∈q.atoms,AtmS a:=by
 obtain⟨y0,y1,y2,m,hx,hl,h0,h1,h2⟩:=trod_struct3 Tryz.underlying50 h
 have hc:Tryz.prog.cellsOf 50=3:=by kernel_rfl
 have c0:Tryz.prog.cellsOf 9=1:=by kernel_rfl
 have c1:Tryz.prog.cellsOf 28=1:=by kernel_rfl
 have c2:Tryz.prog.cellsOf 48=1:=by kernel_rfl
 rw[hc] at hl
 simp only[Prod.mk.injEq] at hx
 rw[hx.1] at hs
 obtain⟨a,b,c,rfl⟩:=len3 hl
 simp only[c0,c1,c2,List.drop_zero,List.take_succ_cons,List.take_zero,List.drop_succ_cons] at h0 h1 h2
 obtain⟨s,e0,f0,_⟩:=DataW.trod_string Tryz.underlying9 h0
 simp only[List.cons.injEq,and_true] at e0
 subst e0
 obtain⟨hd,hh,hhd⟩:=texts_open9 Tryz.underlying28 h1 (hs.field Tryz.underlying50 (j:=1) rfl rfl)
 obtain⟨al,ha,hal,hw⟩:=atoms_open9 Tryz.underlying48 h2 (hs.field Tryz.underlying50 (j:=2) rfl rfl)
 exact⟨⟨s.data.toList,hd,al⟩,b,c,by simp,hh,ha,hal,lit_small Tryz.underlying50 rfl (by rw[f0];rfl) hs,hhd,hw⟩
end
end Go.Proofs.YtgopfpjinohncaaGreatDoor
