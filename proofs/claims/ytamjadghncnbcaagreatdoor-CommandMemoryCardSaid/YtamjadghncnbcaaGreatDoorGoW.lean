/- reader.Open, walked, given what Tokens tells. reader.Open at a line. -/
import Derived.Test.YtamjadghncnbcaaGreatDoorGaW
import Derived.Test.YtamjadghncnbcaaGreatDoorLxW
namespace Go.Proofs.YtamjadghncnbcaaGreatDoor
open Go.RowKit
set_option linter.unusedVariables false
set_option maxHeartbeats 4000000 in
set_option maxRecDepth 100000 in
theorem open_bad_of (s:ByteArray) (w:World) (ts:List Tok) (a e0:Int) (he:e0≠0)
 (ht:Calls Tryz.prog 74 #[.string s] w fun x w'=>∃ ad cap,x=.returned (.tuple #[.slice ad ts.length cap,.int .i64 a,.int .i64 e0])/\w'.ownsRow w.heap.size 84 6 (.slice ad ts.length cap) ts.length (tcells ts)/\Below w.heap.size w w') :
 Calls Tryz.prog 40 #[.string s] w fun e w'=>e=.panicked [{ v:=faultV a e0,recovered:=false }]/\Below w.heap.size w w':=by
 have HT:=Lib.hid ht
 have q0:(e0 != 0)=true:=by simpa using he
 unfold faultV
 clear he ht
 go_enter Tryz.func40,Tryz.ntmps40
 go_wp2_with fail
 refine HT.out.mono ?_
 rintro e w1 ⟨ad,cap,rfl,hown,hb⟩
 have HB:=Lib.hid hb
 clear hown hb
 go_wp2_with fail
 exact⟨rfl,rfl,HB.out⟩
set_option maxHeartbeats 4000000 in
set_option maxRecDepth 100000 in
theorem open_good_of (s:ByteArray) (w:World) (ts:List Tok) (a e0:Int) (he:e0=0) (hen:Ended ts) (hln:ts.length<=100000)
 (ht:Calls Tryz.prog 74 #[.string s] w fun x w'=>∃ ad cap,x=.returned (.tuple #[.slice ad ts.length cap,.int .i64 a,.int .i64 e0])/\w'.ownsRow w.heap.size 84 6 (.slice ad ts.length cap) ts.length (tcells ts)/\Below w.heap.size w w') :
 Calls Tryz.prog 40 #[.string s] w fun e w'=>∃ r vt,e=.returned (.pointer (some ⟨r,0,none⟩))/\w.heap.size<=r/\Rs w' r ts vt/\Below w.heap.size w w':=by
 subst he
 have HT:=Lib.hid ht
 have HE:=Lib.hid hen
 clear ht hen
 go_enter Tryz.func40,Tryz.ntmps40
 go_wp2_with fail
 refine HT.out.mono ?_
 rintro e w1 ⟨ad,cap,rfl,hown,hb⟩
 have HB:=Lib.hid hb
 have HO:=Lib.hid hown
 have hz:=hb.size
 clear hown hb
 go_wp2_with fail
 go_ret
 refine⟨w1.heap.size,_,rfl,hz,⟨ts,0,⟨Blk.new _ _ _,?_,hln⟩,rfl,HE.out⟩,balloc HB.out _⟩
 exact (World.ownsRow.alloc ⟨HO.out.1,(HO.out.2).imp id (fun⟨g,c,cur,h1,h2,h3⟩=>⟨g,c,cur,h1,Nat.zero_le _,h3⟩)⟩ _)
theorem LX_ended:∀ (m:Nat) (r:List UInt8) (p:Nat),r.length<=m->(LX r p).e=0->Ended (LX r p).ts/\(LX r p).ts.length<=r.length+1:=by
 intro m
 have hend:∀ (r:List UInt8) (p:Nat),r=[]∨bt r 0=35->Ended (LX r p).ts/\(LX r p).ts.length<=r.length+1:=by
  intro r p h
  rw[LX_end h]
  exact⟨by simp [Ended,endTok],by simp⟩
 induction m with
 | zero =>
   intro r p h _
   exact hend r p (.inl (List.length_eq_zero_iff.1 (by omega)))
 | succ m ih =>
   intro r p h
   by_cases h0:r=[]∨bt r 0=35
   ·exact fun _=>hend r p h0
   ·have hr:r≠[]:=fun e=>h0 (.inl e)
    have hl:=List.length_pos_iff.2 hr
    by_cases hb:spB (bt r 0)=true
    ·rw[LX_blank h0 hb]
     intro he
     have:=ih _ _ (by rw[List.length_drop];omega) he
     rw[List.length_drop] at this
     exact⟨this.1,by omega⟩
    ·have hb':spB (bt r 0)=false:=by simpa using hb
     by_cases he:(oneS r p).2=0
     ·have h3:=(one_len he hr).1
      have hk:=(one_kind he).1
      have:=ih (r.drop (oneS r p).1.x.length) (p+(oneS r p).1.x.length) (by rw[List.length_drop];omega)
      rw[List.length_drop] at this
      rw[LX_one h0 hb' he]
      split
      ·intro h9
       exact absurd h9 (by assumption)
      ·rename_i h9
       intro _
       have h8:=this (by simpa using h9)
       refine⟨?_,by simp;omega⟩
       unfold Ended
       rw[if_neg hk]
       exact h8.1
     ·rw[LX_bad h0 hb' he]
      exact fun h=>absurd h he
theorem lex_ended {l:List UInt8} (h:(lexR l).e=0):Ended (lexR l).ts/\(lexR l).ts.length<=100000:=by
 unfold lexR at h ⊢
 by_cases hl:16384<l.length
 ·rw[if_pos hl] at h
  exact absurd h (by decide)
 ·rw[if_neg hl] at h ⊢
  have:=LX_ended _ l 0 (Nat.le_refl _) h
  exact⟨this.1,by omega⟩
theorem open_bad (s:ByteArray) (w:World) (hs:s.size<=281474976710656) (hg:Glob w) (he:(lexR s.data.toList).e≠0) :
 Calls Tryz.prog 40 #[.string s] w fun e w'=>e=.panicked [{ v:=faultV (lexR s.data.toList).at_ (lexR s.data.toList).e,recovered:=false }]/\Below w.heap.size w w' :=
 open_bad_of s w (lexR s.data.toList).ts _ _ he (tokens_any s w hs hg)
theorem open_good (s:ByteArray) (w:World) (hs:s.size<=281474976710656) (hg:Glob w) (he:(lexR s.data.toList).e=0) :
 Calls Tryz.prog 40 #[.string s] w fun e w'=>∃ r vt,e=.returned (.pointer (some ⟨r,0,none⟩))/\w.heap.size<=r/\Rs w' r (lexR s.data.toList).ts vt/\Below w.heap.size w w' :=
 open_good_of s w (lexR s.data.toList).ts _ _ he (lex_ended he).1 (lex_ended he).2 (tokens_any s w hs hg)
end Go.Proofs.YtamjadghncnbcaaGreatDoor
