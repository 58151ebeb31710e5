/- DumpFits: -/
import Derived.Test.YtgopfpjinohncaaGreatDoorFf9ZF
import Derived.Test.YtgopfpjinohncaaGreatDoorFdbZF
import Derived.Test.YtgopfpjinohncaaGreatDoorStgqZF
set_option linter.unusedVariables false
namespace Go.Proofs.YtgopfpjinohncaaGreatDoor
open Go.RowKit
theorem D8:vB eD:=⟨Fz,Fz,Fz,(fun a h=>by cases h),Fz,(fun a h=>by cases h),Fz⟩
theorem wJ.small {s:List UInt8} {c:mf} (h:wJ s c):vB c:=by
 have h0:=D8
 rcases h.good with ⟨r,rfl,rfl,hk⟩ | ⟨q,rfl,rfl,hk,hb⟩ | ⟨b,rfl,rfl,hn,hs,hf,hrow⟩
 ·exact⟨(eM hk).2.2.1,h0.head,h0.atoms,h0.terms,h0.b,h0.rows,h0.row⟩
 ·have hq:=cD hk
  exact⟨h0.cols,Nat.le_trans hq.heads (by decide),hq.few,hq.thin,h0.b,h0.rows,h0.row⟩
 ·refine⟨h0.cols,h0.head,h0.atoms,h0.terms,?_,fun x hx=>?_,h0.row⟩
  ·show b.chgs.length<=256
   unfold jT.chgs
   rw[List.length_map]
   exact hf
  ·obtain⟨r,hr,rfl⟩:=List.mem_map.1 hx
   have:=(gh (hrow r hr).1).1
   show r.length<=_
   omega
theorem wb (W:World) (s:List UInt8) (c:mf) (h:wJ s c) (hg:d8 W) :
 Calls Tryz.prog 22 #[.string ⟨s.toArray⟩] W fun e w'=>∃ cells,e=.returned (.tuple #[.agg cells,.int .i64 0,.int .i64 0])/\lX w' cells c/\Below W.heap.size W w':=by
 obtain⟨K,x,ts,hx⟩:=yX h
 have hsz:(⟨s.toArray⟩:ByteArray).size<=281474976710656:=by
  have:=h.len
  show s.length<=_
  omega
 have hp:=qX (K:=K) (t:=kM x 0) (c:=ts) ⟨s.toArray⟩ W hsz hg (by show (aN s).e=0;rw[hx.lex]) (by show (aN s).ts=_;rw[hx.lex]) hx.kind hx.three
 have he:qq K (kM x 0) (⟨s.toArray⟩:ByteArray).data.toList=.ok c []:=hx.one
 rw[he] at hp
 refine hp.mono ?_
 rintro e w' ⟨cells,rfl,ho,hb⟩
 exact⟨cells,rfl,ho.at h.small,hb⟩
theorem BH (w:World) (rv tv qv:Value) (rels:List aU) (data:List eC) (qs:List cf) (hR:bj w rv rels) (hT:du w tv data) (hQ:bZ w qv qs) (bR:AD rels) (bT:∀ t∈data,gk t.rows) (bQ:∀ q∈qs,iG q)
 (nR:rels.length<=1048576) (nD:data.length<=1048576) (nT:dy data<=1048576) (nQ:qs.length<=1048576) (hg:d8 w) :
 Calls Tryz.prog 6 #[rv,tv,qv] w fun e w'=>e=.returned (.bool true)/\Below w.heap.size w w' :=
 xJ w rv tv qv rels data qs hR hT hQ bR bT bQ nR nD nT nQ
  (fun W v1 v2 v3 hW h1 h2 h3=>nN W v1 v2 v3 rels data qs h1 h2 h3 bR bT bQ nR (by omega) nQ (hg.below hW))
  (fun W hW=>Cv W (hg.below hW))
  (fun W s c hW h=>wb W s c h (hg.below hW))
  (fun W cells s c hW h hl=>xo W cells s c h hl (hg.below hW))
