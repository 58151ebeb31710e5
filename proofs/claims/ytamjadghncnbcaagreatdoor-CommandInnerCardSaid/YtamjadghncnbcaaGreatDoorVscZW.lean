/- osierref01.Scan, Read, walked but for numbers; the laws ValueScans, ValueReads, given numbers. -/
import Derived.Test.YtamjadghncnbcaaGreatDoorLeW
namespace Go.Proofs.YtamjadghncnbcaaGreatDoor
open Go.RowKit
set_option linter.unusedVariables false
def NumOk:Prop:=∀ (s:ByteArray) (a:Nat) (w:World),a<s.size->s.size<=281474976710656->bt s.data.toList a≠34 ->
 Calls Tryz.prog 141 #[.string s,.int .i64 a] w fun e w'=>e=.returned (scanR s.data.toList a).v/\Below w.heap.size w w'
set_option maxHeartbeats 8000000 in
set_option maxRecDepth 100000 in
theorem refScan_any (HNK:NumOk) (s:ByteArray) (a:Int) (w:World) (hs:s.size<=140737488355328) :
 Calls Tryz.prog 141 #[.string s,.int .i64 a] w fun e w'=>e=.returned (scanR s.data.toList a).v/\Below w.heap.size w w':=by
 have hsl:s.data.toList.length=s.size:=rfl
 have HB0:=Lib.hid (show Below w.heap.size w (w.alloc (.cells #[.int .i64 0,.int .i64 0,.string ⟨#[]⟩] 69)) from balloc (Below.refl _ _) _)
 by_cases h0:a<0
 ·have HE:Hid (scanR s.data.toList a=bad 10):=Lib.hid (by unfold scanR;rw[if_pos (.inl h0)])
  clear hsl
  go_enter Tryz.func141,Tryz.ntmps141
  go_wp2_with fail
  refine bodyPost_ret (v:=(bad 10).v) (by simp [results,Tryz.results141,go_sem, *];rfl) rfl ⟨by rw[HE.out],HB0.out⟩
 by_cases h1:(s.size:Int)<a
 ·have HE:Hid (scanR s.data.toList a=bad 10):=Lib.hid (by unfold scanR;rw[if_pos (.inr (by rw[hsl];exact h1))])
  have h0':0<=a:=by omega
  clear hsl
  go_enter Tryz.func141,Tryz.ntmps141
  go_wp2_with fail
  refine bodyPost_ret (v:=(bad 10).v) (by simp [results,Tryz.results141,go_sem, *];rfl) rfl ⟨by rw[HE.out],HB0.out⟩
 obtain⟨p,rfl⟩:=Int.eq_ofNat_of_zero_le (show 0<=a by omega)
 by_cases h2:p=s.size
 ·subst h2
  have HE:Hid (scanR s.data.toList (s.size:Nat)=bad 11):=Lib.hid (by
   have h:=scanb s.data.toList []
   rw[List.append_nil,hsl] at h
   rw[h];rfl)
  clear hsl
  go_enter Tryz.func141,Tryz.ntmps141
  go_wp2_with fail
  refine bodyPost_ret (v:=(bad 11).v) (by simp [results,Tryz.results141,go_sem, *];rfl) rfl ⟨by rw[HE.out],HB0.out⟩
 have hlt:p<s.size:=by omega
 by_cases h3:bt s.data.toList p=34
 ·have hx:Lib.hasPrefix (s.data.toList.drop p) [34]=true:=by
   rw[List.drop_eq_getElem_cons (show p<s.data.toList.length from hlt)]
   simp only[Lib.hasPrefix,List.isPrefixOf,Bool.and_true,beq_iff_eq]
   unfold bt at h3
   rw[List.getD_eq_getElem?_getD,List.getElem?_eq_getElem (show p<s.data.toList.length from hlt),Option.getD_some] at h3
   exact UInt8.toNat_inj.1 (show 34=_ by omega)
  have HE:Hid (scanR s.data.toList p=textR (s.data.toList.drop (p+1)) (p+1)):=Lib.hid (by
   unfold scanR
   rw[if_neg (by rw[hsl];omega)]
   simp only[Int.toNat_natCast]
   rw[if_pos hx])
  have hbt:=bt_of s p hlt
  rw[h3] at hbt
  have q0:((p:Int) == (s.size:Int))=false:=beq_eq_false_iff_ne.2 (by omega)
  have q0':(p == s.size)=false:=beq_eq_false_iff_ne.2 h2
  have HT:=Lib.hid (fun W=>refText_any s p W hlt (by omega) (by omega))
  clear hsl h3 hx h2
  go_enter Tryz.func141,Tryz.ntmps141
  go_wp2_with fail
  refine (HT.out _).mono ?_
  rintro e w1 ⟨rfl,hb1⟩
  have hb1':=HB0.out.trans (hb1.mono (by simp))
  have hblk1:=(Blk.new w 69 #[.int .i64 0,.int .i64 0,.string ⟨#[]⟩]).below hb1 (by simp)
  have r0:=hblk1.cell 0
  have r1:=hblk1.cell 1
  have r2:=hblk1.cell 2
  have z0:=hblk1.frozen 0
  have z1:=hblk1.frozen 1
  have z2:=hblk1.frozen 2
  simp at r0 r1 r2
  generalize textR (s.data.toList.drop (p+1)) ((p:Int)+1)=r at *
  obtain⟨rk,rn,rt,rs,re⟩:=r
  simp only[Res.v]
  go_wp2_with fail
  refine bodyPost_ret (v:=(⟨rk,rn,rt,rs,re⟩:Res).v) (by simp [results,Tryz.results141,go_sem, *];rfl) rfl ⟨by rw[HE.out],bstore3 hb1' _ _ _⟩
 ·exact HNK s p w hlt (by omega) h3
end Go.Proofs.YtamjadghncnbcaaGreatDoor
