/- strings.Builder as this program calls it: copyCheck, WriteByte, WriteString, walked (after the shelf's own walks). value.showByte, walked. value.Valid and value.Show, walked. Plain laws of value literals: reading what was written, writing what was read. No program in sight. -/
import Derived.Test.YtgopfpjinohncaaGreatDoorProg
import Derived.Test.YtgopfpjinohncaaGreatDoorShelfZL
import Derived.WalkSpells
import Derived.WalkLawsBesides
import Derived.Lib.Hide
import Derived.Lib.Builder
import Derived.Lib.AppendStr
import Derived.Lib.UnsafeStr
import Derived.Deep.AppendLies
import Derived.Deep.RegionLaw
import Derived.Deep.Light
import Derived.Lib.AppendIntMem
import Derived.Lib.ParseIntBTie
import Derived.Lib.ItoaNum
namespace Go.Proofs.YtgopfpjinohncaaGreatDoor
open Go.RowKit
set_option linter.unusedVariables false
theorem bld_size:(Tryz.prog.info? 156).map (fun i=>i.size)=some 2:=by kernel_rfl
theorem bld_byte:(Tryz.prog.info? 5).map (fun i=>(i.zero,i.size,i.bytes))=some (some (.int .u8 0),1,1):=by kernel_rfl
theorem bld_lies:liesAt Tryz.prog Tryz.prog.depth 156 (2 / Tryz.prog.cellsOf 156) 0 156 1=true:=by kernel_rfl
set_option maxHeartbeats 1000000 in
set_option maxRecDepth 100000 in
theorem copyCheck_used (b:Nat) (w:World) (h0:w.cell? ⟨b,0,none⟩=some (.pointer (some ⟨b,0,none⟩))) :
 Calls Tryz.prog 172 #[.pointer (some ⟨b,0,none⟩)] w fun e w'=>e=.returned (.tuple #[])/\w=w':=by
 obtain⟨j,hj,_⟩:=Option.map_eq_some_iff.1 bld_size
 go_enter Tryz.func172,Tryz.ntmps172
 go_wp2
 rw[Lib.run_neq_ptr_same w _ Tryz.underlying153 hj]
 go_wp2
 go_end0
 exact⟨rfl,rfl⟩
set_option maxHeartbeats 1000000 in
set_option maxRecDepth 100000 in
theorem copyCheck_fresh (b:Nat) (w:World) (h0:w.cell? ⟨b,0,none⟩=some (.pointer none)) (hsh:w.shape? b=some (156,2)) (hfz:w.frozen? ⟨b,0,none⟩=false) :
 Calls Tryz.prog 172 #[.pointer (some ⟨b,0,none⟩)] w fun e w'=>e=.returned (.tuple #[])/\w'=w.setCell ⟨b,0,none⟩ (.pointer (some ⟨b,0,none⟩)):=by
 obtain⟨j,hj,hjs⟩:=Option.map_eq_some_iff.1 bld_size
 go_enter Tryz.func172,Tryz.ntmps172
 go_wp2
 rw[Lib.run_to_unsafe w ⟨b,0,none⟩ Tryz.underlying153 Tryz.underlying298 hj (by rw[hjs];decide) hsh (Nat.zero_lt_succ 1)]
 simp only[Result.andThen]
 rw[Oper.upon_value]
 go_wp2
 rw[run_callFunc_extern Tryz.func217 (by kernel_rfl) (by kernel_rfl) (by kernel_rfl) (e:=Extern.AbiNoEscape.same) (by kernel_rfl)]
 rw[Lib.run_noEscape]
 simp only[Result.andThen]
 rw[Oper.upon_value]
 go_wp2
 rw[Lib.run_from_unsafe w ⟨b,0,none⟩ Tryz.underlying298 Tryz.underlying153 hj hsh bld_lies]
 simp only[Result.andThen]
 rw[Oper.upon_value]
 go_wp2
 go_end0
 exact⟨rfl,rfl⟩
theorem copyCheck_any (B b:Nat) (bs:List Value) (w:World) (h:Lib.IsBuilder 156 5 B b bs w) :
 Calls Tryz.prog 172 #[.pointer (some ⟨b,0,none⟩)] w fun e w'=>e=.returned (.tuple #[])/\(Lib.BuilderAt 156 5 B b (.pointer (some ⟨b,0,none⟩)) bs w'/\Below B w w'):=by
 rcases h with h | h
 ·refine (copyCheck_fresh b w h.cell0 h.shape h.frozen0).mono ?_
  rintro e w' ⟨rfl,rfl⟩
  exact⟨rfl,h.used _,(Below.refl B w).setCell (p:=⟨b,0,none⟩) h.1 _⟩
 ·refine (copyCheck_used b w h.cell0).mono ?_
  rintro e w' ⟨rfl,rfl⟩
  exact⟨rfl,h,Below.refl B _⟩
set_option maxHeartbeats 2000000 in
set_option maxRecDepth 100000 in
theorem writeByte_any (B b:Nat) (bs:List Value) (c:Int) (w:World) (h:Lib.IsBuilder 156 5 B b bs w) (hlen:bs.length+1<=140737488355328) (hBw:B<=w.heap.size) :
 Calls Tryz.prog 206 #[.pointer (some ⟨b,0,none⟩),.int .u8 c] w fun e w'=>e=.returned .nilIface/\(Lib.BuilderAt 156 5 B b (.pointer (some ⟨b,0,none⟩)) (bs++[.int .u8 c]) w'/\Below B w w'):=by
 obtain⟨i0,hi,hz0,hz1,hz2⟩:=info_parts bld_byte
 have HH:=Lib.hid h
 clear h
 go_enter Tryz.func206,Tryz.ntmps206
 go_wp2_with fail
 refine (copyCheck_any B b bs _ HH.out).mono ?_
 rintro e w1 ⟨rfl,h1,hb1⟩
 obtain⟨hB,v,hbk,hown,hne⟩:=h1
 have c0:w1.cell? ⟨b,0,none⟩=some (.pointer (some ⟨b,0,none⟩)):=by rw[Lib.cell_of_heap hbk];rfl
 have c1:w1.cell? ⟨b,1,none⟩=some v:=by rw[Lib.cell_of_heap hbk];rfl
 have HK:=Lib.hid hbk
 have HO:=Lib.hid hown
 have HN:=Lib.hid hne
 clear hbk hown hne
 go_wp2_with (at_builtin;refine wpList_append_lies _ rfl (.tmp 11) (.tmp 13) 154 rfl B 5 i0 (.int .u8 0) 1 1 Tryz.underlying154 hi hz0 hz1 hz2 rfl (by decide) v bs.length _ rfl (HO.out.alloc _) ⟨w1.heap.size,0,none⟩ 1 1 [.int .u8 c] rfl rfl (cell_one_new _ _ _) ?c2 (by decide) ?c3 (by omega) ?c5 (w1.heap.size+1) (by simp) ?_)
 case c2=>intro u hu;simp at hu;subst hu;rfl
 case c3=>unfold maxLen;omega
 case c5=>have:=hb1.size;simp;omega
 intro g cap w2 hown' hgrow hat hlt2
 have hlt:b<w1.heap.size:=by
  rcases Nat.lt_or_ge b w1.heap.size with h' | h'
  ·exact h'
  ·have:=HK.out;simp [Array.getElem?_eq_none h'] at this
 have hb2:w2.heap[b]? = some (.cells #[.pointer (some ⟨b,0,none⟩),v] 156 (0,0)):=by
  rw[hgrow.block b (by simp;omega) (fun e=>HN.out e.symm),Lib.alloc_old w1 _ b hlt]
  exact HK.out
 have d0:w2.cell? ⟨b,0,none⟩=some (.pointer (some ⟨b,0,none⟩)):=by rw[Lib.cell_of_heap hb2];rfl
 have d1:w2.cell? ⟨b,1,none⟩=some v:=by rw[Lib.cell_of_heap hb2];rfl
 have f1:w2.frozen? ⟨b,1,none⟩=false:=Lib.frozen_of_heap hb2 1
 have HB2:=Lib.hid hb2
 have HO2:=Lib.hid hown'
 clear hb2 hown'
 go_wp2_with fail
 go_ret
 refine⟨rfl,?_,?_⟩
 ·exact Lib.BuilderAt.put (T:=156) (e:=5) hB HB2.out (bs':=bs++[.int .u8 c]) (by simpa using HO2.out) (by decide)
 ·exact ((hb1.alloc (by have:=hb1.size;omega) _).grown hgrow (by have:=hb1.size;simp;omega) (fun k hk=>(HO.out.lt k hk).1)).setCell (p:=⟨b,1,none⟩) hB _
set_option maxHeartbeats 2000000 in
set_option maxRecDepth 100000 in
theorem writeString_any (B b:Nat) (bs:List Value) (s:ByteArray) (w:World) (h:Lib.IsBuilder 156 5 B b bs w) (hlen:bs.length+s.size<=140737488355328) (hBw:B<=w.heap.size) :
 Calls Tryz.prog 91 #[.pointer (some ⟨b,0,none⟩),.string s] w fun e w'=>e=.returned (.tuple #[.int .i64 s.size,.nilIface])/\(Lib.BuilderAt 156 5 B b (.pointer (some ⟨b,0,none⟩)) (bs++Lib.strCells s) w'/\Below B w w'):=by
 obtain⟨i0,hi,hz0,hz1,hz2⟩:=info_parts bld_byte
 have HH:=Lib.hid h
 clear h
 go_enter Tryz.func91,Tryz.ntmps91
 go_wp2_with fail
 refine (copyCheck_any B b bs _ HH.out).mono ?_
 rintro e w1 ⟨rfl,h1,hb1⟩
 obtain⟨hB,v,hbk,hown,hne⟩:=h1
 have c0:w1.cell? ⟨b,0,none⟩=some (.pointer (some ⟨b,0,none⟩)):=by rw[Lib.cell_of_heap hbk];rfl
 have c1:w1.cell? ⟨b,1,none⟩=some v:=by rw[Lib.cell_of_heap hbk];rfl
 have HK:=Lib.hid hbk
 have HO:=Lib.hid hown
 have HN:=Lib.hid hne
 clear hbk hown hne
 go_wp2_with (at_builtin;refine Lib.wpList_append_own_string _ rfl _ _ 154 9 rfl B 5 i0 Tryz.underlying154 Tryz.underlying9 hi hz0 hz1 hz2 _ _ _ rfl HO.out s rfl ?c3 ?c4 ?c5 ?_)
 case c3=>unfold maxLen;omega
 case c4=>omega
 case c5=>have:=hb1.size;omega
 intro v' w2 hown' hgrow _
 have hlt:b<w1.heap.size:=by
  rcases Nat.lt_or_ge b w1.heap.size with h' | h'
  ·exact h'
  ·have:=HK.out;simp [Array.getElem?_eq_none h'] at this
 have hb2:w2.heap[b]? = some (.cells #[.pointer (some ⟨b,0,none⟩),v] 156 (0,0)):=by
  rw[hgrow.block b hlt (fun e=>HN.out e.symm)]
  exact HK.out
 have d0:w2.cell? ⟨b,0,none⟩=some (.pointer (some ⟨b,0,none⟩)):=by rw[Lib.cell_of_heap hb2];rfl
 have d1:w2.cell? ⟨b,1,none⟩=some v:=by rw[Lib.cell_of_heap hb2];rfl
 have f1:w2.frozen? ⟨b,1,none⟩=false:=Lib.frozen_of_heap hb2 1
 obtain⟨ao,n',cap,rfl⟩:∃ ao n' cap,v'=.slice ao n' cap:=by
  rcases hown'.2 with ⟨e,_⟩ | ⟨g,cap,cur,e,_⟩
  ·exact⟨_,_,_,e⟩
  ·exact⟨_,_,_,e⟩
 have HB2:=Lib.hid hb2
 have HO2:=Lib.hid hown'
 clear hb2 hown'
 go_wp2_with fail
 go_ret2
 refine⟨rfl,?_,?_⟩
 ·exact Lib.BuilderAt.put (T:=156) (e:=5) hB HB2.out (bs':=bs++Lib.strCells s) (by simpa [Lib.strCells_length] using HO2.out) (by decide)
 ·exact (hb1.grown hgrow (by have:=hb1.size;omega) (fun k hk=>(HO.out.lt k hk).1)).setCell (p:=⟨b,1,none⟩) hB _
abbrev BldAt (B b:Nat) (p:Value) (acc:List UInt8) (w:World):Prop:=Lib.BuilderAt 156 5 B b p (Lib.byteCells acc) w
abbrev IsBld (B b:Nat) (acc:List UInt8) (w:World):Prop:=Lib.IsBuilder 156 5 B b (Lib.byteCells acc) w
def hexd (i:Int):UInt8:=UInt8.ofNat (if i<10 then 48+i else 87+i).toNat
theorem hexd_tab:∀ i:Fin 16,(ByteArray.mk #[48,49,50,51,52,53,54,55,56,57,97,98,99,100,101,102])[i.val]'(by have h:=i.isLt;exact h)=hexd i.val:=by decide
theorem hexd_at (i:Int) (h0:0<=i) (h1:i<16) (hp:i.toNat<(ByteArray.mk #[48,49,50,51,52,53,54,55,56,57,97,98,99,100,101,102]).size) :
 (ByteArray.mk #[48,49,50,51,52,53,54,55,56,57,97,98,99,100,101,102])[i.toNat]'hp=hexd i:=by
 have:=hexd_tab ⟨i.toNat,by omega⟩
 simp only[Int.toNat_of_nonneg h0] at this
 exact this
def showB (c:Int):List UInt8 :=
 if c=34∨c=92 then [92,UInt8.ofNat c.toNat]
 else if c=10 then [92,110]
 else if c=9 then [92,116]
 else if 32<=c/\c<=126 then [UInt8.ofNat c.toNat]
 else [92,120,hexd (c / 16),hexd (c % 16)]
theorem byte_of (c:Int) (h0:0<=c) (h1:c<=255):Value.int .u8 c=Value.int .u8 ((UInt8.ofNat c.toNat).toNat:Int):=by
 congr 1
 rw[UInt8.toNat_ofNat']
 omega
theorem bc_append (a b:List UInt8):Lib.byteCells (a++b)=Lib.byteCells a++Lib.byteCells b:=by simp [Lib.byteCells]
theorem writeByte_l (B b:Nat) (acc:List UInt8) (c:Int) (w:World) (h:IsBld B b acc w) (hlen:acc.length+1<=140737488355328) (hBw:B<=w.heap.size) (h0:0<=c) (h1:c<=255) :
 Calls Tryz.prog 206 #[.pointer (some ⟨b,0,none⟩),.int .u8 c] w fun e w'=>e=.returned .nilIface/\(BldAt B b (.pointer (some ⟨b,0,none⟩)) (acc++[UInt8.ofNat c.toNat]) w'/\Below B w w'):=by
 refine (writeByte_any B b _ c w h (by rw[Lib.byteCells_length];exact hlen) hBw).mono ?_
 rintro e w' ⟨rfl,h2,hb⟩
 refine⟨rfl,?_,hb⟩
 unfold BldAt
 rw[bc_append]
 rw[byte_of c h0 h1] at h2
 exact h2
theorem writeString_l (B b:Nat) (acc:List UInt8) (s:ByteArray) (w:World) (h:IsBld B b acc w) (hlen:acc.length+s.size<=140737488355328) (hBw:B<=w.heap.size) :
 Calls Tryz.prog 91 #[.pointer (some ⟨b,0,none⟩),.string s] w fun e w'=>e=.returned (.tuple #[.int .i64 s.size,.nilIface])/\(BldAt B b (.pointer (some ⟨b,0,none⟩)) (acc++s.data.toList) w'/\Below B w w'):=by
 refine (writeString_any B b _ s w h (by rw[Lib.byteCells_length];exact hlen) hBw).mono ?_
 rintro e w' ⟨rfl,h2,hb⟩
 refine⟨rfl,?_,hb⟩
 unfold BldAt
 rw[bc_append]
 exact h2
set_option maxHeartbeats 4000000 in
theorem showByte_any (B b:Nat) (acc:List UInt8) (c:Int) (w:World) (h:IsBld B b acc w) (hlen:acc.length+4<=140737488355328) (hBw:B<=w.heap.size) (h0:0<=c) (h1:c<=255) :
 Calls Tryz.prog 207 #[.pointer (some ⟨b,0,none⟩),.int .u8 c] w fun e w'=>e=.returned (.tuple #[])/\BldAt B b (.pointer (some ⟨b,0,none⟩)) (acc++showB c) w'/\Below B w w':=by
 have HH:=Lib.hid h
 clear h
 by_cases c1:c=34∨c=92
 ·have HE:Hid (acc++[92]++[UInt8.ofNat c.toNat]=acc++showB c):=Lib.hid (by rw[showB,if_pos c1];simp)
  have q:(c == 34)=true∨((c == 34)=false/\(c == 92)=true):=by
   rcases c1 with rfl | rfl
   ·left;rfl
   ·right;exact⟨rfl,rfl⟩
  clear c1
  rcases q with q1 | ⟨q1,q2⟩
  all_goals
   go_enter Tryz.func207,Tryz.ntmps207
   go_wp2_with fail
   refine (writeByte_l B b acc 92 _ HH.out (by omega) hBw (by omega) (by omega)).mono ?_
   rintro e w1 ⟨rfl,hw1,hb1⟩
   have HW1:=Lib.hid hw1
   clear hw1
   go_wp2_with fail
   refine (writeByte_l B b _ c _ (.inr HW1.out) (by simp;omega) (Nat.le_trans hBw hb1.size) h0 h1).mono ?_
   rintro e w2 ⟨rfl,hw2,hb2⟩
   have HW2:=Lib.hid hw2
   clear hw2
   go_wp2_with fail
   go_end0
   exact⟨rfl,by rw[<-HE.out];exact HW2.out,hb1.trans hb2⟩
 ·have q1:(c == 34)=false:=by simp;omega
  have q2:(c == 92)=false:=by simp;omega
  by_cases c2:c=10
  ·have HE:Hid (showB c=[92,110]):=Lib.hid (by rw[showB,if_neg c1,if_pos c2])
   have q3:(c == 10)=true:=by simpa using c2
   clear c1 c2
   go_enter Tryz.func207,Tryz.ntmps207
   go_wp2_with fail
   refine (writeString_l B b acc _ _ HH.out (by have:(ByteArray.mk #[92,110]).size=2:=rfl;omega) hBw).mono ?_
   rintro e w1 ⟨rfl,hw1,hb1⟩
   have HW1:=Lib.hid hw1
   clear hw1
   go_wp2_with fail
   go_end0
   exact⟨rfl,by rw[HE.out];exact HW1.out,hb1⟩
  ·have q3:(c == 10)=false:=by simpa using c2
   by_cases c3:c=9
   ·have HE:Hid (showB c=[92,116]):=Lib.hid (by rw[showB,if_neg c1,if_neg c2,if_pos c3])
    have q4:(c == 9)=true:=by simpa using c3
    clear c1 c2 c3
    go_enter Tryz.func207,Tryz.ntmps207
    go_wp2_with fail
    refine (writeString_l B b acc _ _ HH.out (by have:(ByteArray.mk #[92,116]).size=2:=rfl;omega) hBw).mono ?_
    rintro e w1 ⟨rfl,hw1,hb1⟩
    have HW1:=Lib.hid hw1
    clear hw1
    go_wp2_with fail
    go_end0
    exact⟨rfl,by rw[HE.out];exact HW1.out,hb1⟩
   ·have q4:(c == 9)=false:=by simpa using c3
    by_cases c4:32<=c/\c<=126
    ·have HE:Hid (showB c=[UInt8.ofNat c.toNat]):=Lib.hid (by rw[showB,if_neg c1,if_neg c2,if_neg c3,if_pos c4])
     obtain⟨c5,c6⟩:=c4
     clear c1 c2 c3
     go_enter Tryz.func207,Tryz.ntmps207
     go_wp2_with fail
     refine (writeByte_l B b acc c _ HH.out (by omega) hBw h0 h1).mono ?_
     rintro e w1 ⟨rfl,hw1,hb1⟩
     have HW1:=Lib.hid hw1
     clear hw1
     go_wp2_with fail
     go_end0
     exact⟨rfl,by rw[HE.out];exact HW1.out,hb1⟩
    ·have HE:Hid (showB c=[92,120,hexd (c / 16),hexd (c % 16)]):=Lib.hid (by rw[showB,if_neg c1,if_neg c2,if_neg c3,if_neg c4])
     have c5:c<32∨126<c:=by omega
     clear c1 c2 c3 c4
     rcases c5 with c5 | c5
     all_goals
      go_enter Tryz.func207,Tryz.ntmps207
      go_wp2_with fail
      refine (writeString_l B b acc _ _ HH.out (by have:(ByteArray.mk #[92,120]).size=2:=rfl;omega) hBw).mono ?_
      rintro e w1 ⟨rfl,hw1,hb1⟩
      have HW1:=Lib.hid hw1
      clear hw1
      go_wp2_with fail
      refine (writeByte_any B b _ _ _ (.inr HW1.out) (by rw[Lib.byteCells_length];simp;omega) (Nat.le_trans hBw hb1.size)).mono ?_
      rintro e w2 ⟨rfl,hw2,hb2⟩
      rw[hexd_at (c / 16) (by omega) (by omega)] at hw2
      have HW2:=Lib.hid hw2
      clear hw2
      go_wp2_with fail
      refine (writeByte_any B b _ _ _ (.inr HW2.out) (by rw[List.length_append,Lib.byteCells_length];simp;omega) (Nat.le_trans hBw (Nat.le_trans hb1.size hb2.size))).mono ?_
      rintro e w3 ⟨rfl,hw3,hb3⟩
      rw[hexd_at (c % 16) (by omega) (by omega)] at hw3
      have HW3:=Lib.hid hw3
      clear hw3
      go_wp2_with fail
      go_end0
      refine⟨rfl,?_,(hb1.trans hb2).trans hb3⟩
      have e:Lib.byteCells (acc++showB c)=Lib.byteCells (acc++(ByteArray.mk #[92,120]).data.toList)++[.int .u8 ((hexd (c / 16)).toNat:Int)]++[.int .u8 ((hexd (c % 16)).toNat:Int)]:=by
       rw[HE.out];simp [Lib.byteCells]
      unfold BldAt
      rw[e]
      exact HW3.out
def validB (k n:Int) (t:List UInt8):Bool:=decide (k=1/\t=[]∨k=2/\n=0/\t.length<=64)
theorem isEmpty_data (t:ByteArray):t.toList.isEmpty=t.data.toList.isEmpty:=by rw[ByteArray.toList_eq]
set_option maxHeartbeats 2000000 in
theorem valid_any (k n:Int) (t:ByteArray) (w:World) :
 Calls Tryz.prog 157 #[.agg #[.int .i64 k,.int .i64 n,.string t]] w fun e w'=>e=.returned (.bool (validB k n t.data.toList))/\w'=w.alloc (.cells #[.int .i64 k,.int .i64 n,.string t] 111):=by
 by_cases k1:k=1
 ·subst k1
  by_cases ht:t.data.toList=[]
  ·have HE:Hid (validB 1 n t.data.toList=true):=Lib.hid (by simp [validB,ht])
   have q:t.toList.isEmpty=true:=by rw[isEmpty_data,ht];rfl
   clear ht
   go_enter Tryz.func157,Tryz.ntmps157
   go_wp2
   go_ret
   exact⟨by rw[HE.out];rfl,rfl⟩
  ·have HE:Hid (validB 1 n t.data.toList=false):=Lib.hid (by simp only[validB,ht];simp)
   have q:t.toList.isEmpty=false:=by rw[isEmpty_data];cases h:t.data.toList with | nil=>exact absurd h ht | cons _ _=>rfl
   clear ht
   go_enter Tryz.func157,Tryz.ntmps157
   go_wp2
   go_ret
   exact⟨by rw[HE.out];rfl,rfl⟩
 ·have q1:(k == 1)=false:=by simpa using k1
  have hl:t.data.toList.length=t.size:=rfl
  by_cases k2:k=2
  ·have q2:(k == 2)=true:=by simpa using k2
   have HE:Hid (validB k n t.data.toList=decide (n=0/\t.size<=64)):=Lib.hid (by simp only[validB,k2,hl];simp)
   by_cases n0:n=0
   ·have q3:(n == 0)=true:=by simpa using n0
    have HE2:Hid (validB k n t.data.toList=decide (t.size<=64)):=Lib.hid (by rw[HE.out];simp [n0])
    by_cases h64:t.size<=64
    ·have HE3:Hid (validB k n t.data.toList=true):=Lib.hid (by rw[HE2.out];simp [h64])
     have h64':decide ((t.size:Int)<=64)=true:=by simp;omega
     clear k1 k2 n0 hl
     go_enter Tryz.func157,Tryz.ntmps157
     go_wp2
     go_ret
     exact⟨by rw[HE3.out];rfl,rfl⟩
    ·have HE3:Hid (validB k n t.data.toList=false):=Lib.hid (by rw[HE2.out];simp;omega)
     have h65:64<t.size:=by omega
     have h65':decide ((t.size:Int)<=64)=false:=by simp;omega
     clear k1 k2 n0 hl h64
     go_enter Tryz.func157,Tryz.ntmps157
     go_wp2
     go_ret
     exact⟨by rw[HE3.out];rfl,rfl⟩
   ·have q3:(n == 0)=false:=by simpa using n0
    have HE3:Hid (validB k n t.data.toList=false):=Lib.hid (by rw[HE.out];simp [n0])
    clear k1 k2 n0 hl
    go_enter Tryz.func157,Tryz.ntmps157
    go_wp2
    go_ret
    exact⟨by rw[HE3.out];rfl,rfl⟩
  ·have q2:(k == 2)=false:=by simpa using k2
   have HE3:Hid (validB k n t.data.toList=false):=Lib.hid (by simp [validB,k1,k2])
   clear k1 k2 hl
   go_enter Tryz.func157,Tryz.ntmps157
   go_wp2
   go_ret
   exact⟨by rw[HE3.out];rfl,rfl⟩
def showT (t:List UInt8):List UInt8:=t.flatMap fun c=>showB c.toNat
def showR (k n:Int) (t:List UInt8):List UInt8:=if validB k n t then (if k=1 then Lib.itoa n else 34::(showT t++[34])) else []
theorem showT_len (t:List UInt8):(showT t).length<=t.length * 4:=by
 induction t with
 | nil=>simp [showT]
 | cons c t ih =>
   have:(showB c.toNat).length<=4:=by unfold showB;(repeat' split)<;>simp
   simp only[showT,List.flatMap_cons,List.length_append,List.length_cons] at *
   omega
set_option maxHeartbeats 2000000 in
theorem show_bad (k n:Int) (t:ByteArray) (w:World) (h:validB k n t.data.toList=false) :
 Calls Tryz.prog 150 #[.agg #[.int .i64 k,.int .i64 n,.string t]] w fun e w'=>e=.returned (.string ⟨(showR k n t.data.toList).toArray⟩)/\Below w.heap.size w w':=by
 have HE:Hid (showR k n t.data.toList=[]):=Lib.hid (by rw[showR,h];rfl)
 go_enter Tryz.func150,Tryz.ntmps150
 go_wp2_with fail
 refine (valid_any k n t _).mono ?_
 rintro e w1 ⟨rfl,rfl⟩
 rw[h]
 go_wp2_with fail
 go_ret
 exact⟨by rw[HE.out];rfl,balloc (balloc (Below.refl _ _) _) _⟩
set_option maxHeartbeats 2000000 in
theorem show_num (n:Int) (t:ByteArray) (w:World) (h:validB 1 n t.data.toList=true) (h0 : -9223372036854775808<=n) (h1:n<=9223372036854775807) (hg:Glob w) :
 Calls Tryz.prog 150 #[.agg #[.int .i64 1,.int .i64 n,.string t]] w fun e w'=>e=.returned (.string ⟨(showR 1 n t.data.toList).toArray⟩)/\Below w.heap.size w w':=by
 have HE:Hid (showR 1 n t.data.toList=Lib.itoa n):=Lib.hid (by rw[showR,h];rfl)
 have hb0:Below w.heap.size w ((w.alloc (.cells #[.int .i64 1,.int .i64 n,.string t] 111)).alloc (.cells #[.int .i64 1,.int .i64 n,.string t] 111)):=balloc (balloc (Below.refl _ _) _) _
 have HF:=Lib.hid (Tryz.strconv_FormatInt_10 n h0 h1 _ (hg.below hb0).tab)
 have HB:=Lib.hid hb0
 clear hg hb0
 go_enter Tryz.func150,Tryz.ntmps150
 go_wp2_with fail
 refine (valid_any 1 n t _).mono ?_
 rintro e w1 ⟨rfl,rfl⟩
 rw[h]
 go_wp2_with fail
 refine HF.out.mono ?_
 rintro e w2 ⟨rfl,k,os,rfl⟩
 go_wp2_with fail
 go_ret
 exact⟨by rw[HE.out];rfl,HB.out.trans (Lib.below_grow _ _ (by simp;omega) _ _)⟩
/-! numbers -/
theorem nDigits_le {k:Nat}:∀ {u:Nat},u<10 ^ (k+1)->Lib.nDigits u<=k+1:=by
 induction k with
 | zero=>intro u h;rw[Lib.nDigits_small (by simpa using h)];exact Nat.le_refl _
 | succ k ih =>
   intro u h
   by_cases hu:u<10
   ·rw[Lib.nDigits_small hu];omega
   ·rw[Lib.nDigits_big hu]
    have:=ih (u:=u / 10) (by rw[Nat.pow_succ] at h;omega)
    omega
theorem parse_snoc (M:Nat) (c:UInt8):∀ (l:List UInt8) (acc v:Nat),Lib.parseUintM M acc l=.ok v->Lib.parseUintM M acc (l++[c])=Lib.parseUintM M v [c]
 | [],acc,v,h=>by
   simp only[Lib.parseUintM] at h
   injection h with h
   subst h
   rfl
 | x::r,acc,v,h=>by
   simp only[List.cons_append]
   simp only[Lib.parseUintM] at h ⊢
   split at h
   ·rename_i hd
    rw[if_pos hd]
    split at h
    ·cases h
    ·rename_i h1
     rw[if_neg h1]
     split at h
     ·cases h
     ·rename_i h2
      rw[if_neg h2]
      have:=parse_snoc M c r _ v h
      simpa only [Lib.parseUintM] using this
   ·cases h
theorem parse_lt (M:Nat):∀ (l:List UInt8) (acc u:Nat),Lib.parseUintM M acc l=.ok u->u<(acc+1) * 10 ^ l.length
 | [],acc,u,h=>by
   simp only[Lib.parseUintM] at h
   injection h with h
   simp;omega
 | c::r,acc,u,h=>by
   simp only[Lib.parseUintM] at h
   split at h
   ·split at h
    ·cases h
    ·split at h
     ·cases h
     ·have:=parse_lt M r _ u h
      rw[List.length_cons,Nat.pow_succ,Nat.mul_comm (10 ^ r.length),<-Nat.mul_assoc]
      refine Nat.lt_of_lt_of_le this (Nat.mul_le_mul_right _ ?_)
      omega
   ·cases h
theorem itoa_cases (n:Int):(∃ u:Nat,n=(u:Int)/\Lib.itoa n=Lib.decDigits u)∨∃ u:Nat,1<=u/\n = -(u:Int)/\Lib.itoa n=45::Lib.decDigits u:=by
 by_cases h:n<0
 ·exact .inr ⟨n.natAbs,by omega,by omega,by unfold Lib.itoa;rw[if_pos h]⟩
 ·exact .inl ⟨n.toNat,by omega,by unfold Lib.itoa;rw[if_neg h]⟩
/-! texts -/
theorem show_scanB {l:List UInt8} (hl:l≠[]) (hq34:bt l 0≠34) (h:(scanB l).2≠0):((showB (scanB l).1).length:Int)<=(scanB l).2:=by
 have h4:∀ c:Int,(showB c).length<=4:=by intro c;unfold showB;(repeat' split)<;>simp
 have h0:=bt_bd l 0
 have h1:=bt_bd l 1
 revert h
 unfold scanB
 repeat' split
 all_goals (intro h;simp only at h ⊢)
 all_goals first
  | (exact absurd rfl h)
  | (have:=h4 (hexI (bt l 2) * 16+hexI (bt l 3));omega)
  | skip
 all_goals unfold showB
 ·rename_i hq h32 h126
  rw[if_neg (by omega),if_neg (by omega),if_neg (by omega),if_pos (by omega)];simp
 ·rename_i hq;rw[if_pos hq];simp
 ·simp
 ·simp
theorem textScan_good:∀ (m:Nat) (l t:List UInt8) (n:Nat),l.length<=m->textScan l=some (t,n)->(showT t).length<=n/\n<l.length:=by
 intro m
 induction m with
 | zero =>
   intro l t n hl h
   have:l=[]:=List.length_eq_zero_iff.1 (by omega)
   subst this
   rw[textScan_nil] at h
   cases h
 | succ m ih =>
   intro l t n hl h
   by_cases h0:l=[]
   ·subst h0;rw[textScan_nil] at h;cases h
   have hpos:0<l.length:=List.length_pos_iff.2 h0
   by_cases hq:bt l 0=34
   ·rw[textScan_quote h0 hq] at h
    injection h with h
    injection h with ht hn
    subst ht hn
    exact⟨Nat.le_refl _,hpos⟩
   by_cases hn:(scanB l).2=0
   ·rw[textScan_bad h0 hq hn] at h;cases h
   obtain⟨hc,b0,b1,b2⟩:=scanB_bd l h0
   rw[textScan_step h0 hq hn] at h
   cases hr:textScan (l.drop (scanB l).2.toNat) with
   | none=>rw[hr] at h;cases h
   | some p =>
     obtain⟨t',n'⟩:=p
     rw[hr] at h
     injection h with h
     injection h with ht hn'
     subst ht hn'
     have hd:(l.drop (scanB l).2.toNat).length=l.length - (scanB l).2.toNat:=List.length_drop
     obtain⟨g1,g2⟩:=ih _ t' n' (by omega) hr
     have gs:=show_scanB h0 hq hn
     have e:((UInt8.ofNat (scanB l).1.toNat).toNat:Int)=(scanB l).1:=by rw[UInt8.toNat_ofNat'];omega
     have el:(showT (UInt8.ofNat (scanB l).1.toNat::t')).length=(showB (scanB l).1).length+(showT t').length:=by
      simp only[showT,List.flatMap_cons,List.length_append,e]
     rw[el]
     simp only at *
     omega
/-! values -/
theorem itoa_len {l:List UInt8} {n:Int} (h:Lib.parseIntB 64 l=.ok n):(Lib.itoa n).length<=l.length:=by
 have e2:(2:Nat) ^ 64 - 1=18446744073709551615:=by decide
 have key:∀ (r:List UInt8) (u:Nat),Lib.parseUintB 64 r=.ok u->(Lib.decDigits u).length<=r.length/\r≠[]:=by
  intro r u hu
  unfold Lib.parseUintB at hu
  split at hu
  ·cases hu
  ·rename_i hr
   refine⟨?_,hr⟩
   have hb:=parse_lt _ _ _ _ hu
   have hpos:0<r.length:=List.length_pos_iff.2 hr
   rw[Lib.decDigits_length]
   obtain⟨k,hk⟩:∃ k,r.length=k+1:=⟨r.length - 1,by omega⟩
   rw[hk] at hb ⊢
   exact nDigits_le (by simpa using hb)
 have pos:∀ u:Nat,(Lib.itoa (u:Int)).length=(Lib.decDigits u).length:=by
  intro u;unfold Lib.itoa;rw[if_neg (by omega)];simp
 cases l with
 | nil=>cases h
 | cons c r =>
   by_cases h43:c=43
   ·subst h43
    rw[Lib.parseIntB_plus] at h
    cases hu:Lib.parseUintB 64 r with
    | ok u =>
      rw[hu] at h
      simp only[Lib.signlessC] at h
      split at h
      ·cases h
      ·injection h with h
       subst h
       have:=(key r u hu).1
       rw[pos,List.length_cons];omega
    | _=>rw[hu] at h;cases h
   by_cases h45:c=45
   ·subst h45
    rw[Lib.parseIntB_minus] at h
    cases hu:Lib.parseUintB 64 r with
    | ok u =>
      rw[hu] at h
      simp only[Lib.signedC] at h
      split at h
      ·cases h
      ·injection h with h
       subst h
       have:=(key r u hu).1
       have hl:(Lib.itoa (-(u:Int))).length<=1+(Lib.decDigits u).length:=by
        by_cases h0:u=0
        ·subst h0
         have:=pos 0
         simp at *;omega
        ·unfold Lib.itoa
         rw[if_pos (by omega)]
         simp;omega
       rw[List.length_cons];omega
    | _=>rw[hu] at h;cases h
   ·rw[Lib.parseIntB_plain 64 c r (fun e=>h43 (UInt8.toNat_inj.1 e)) (fun e=>h45 (UInt8.toNat_inj.1 e))] at h
    cases hu:Lib.parseUintB 64 (c::r) with
    | ok u =>
      rw[hu] at h
      simp only[Lib.signlessC] at h
      split at h
      ·cases h
      ·injection h with h
       subst h
       have:=(key _ u hu).1
       rw[pos];exact this
    | _=>rw[hu] at h;cases h
theorem scan0 (l:List UInt8):scanR l 0=if Lib.hasPrefix l [34]=true then textR (l.drop 1) 1 else if numAt l=true then numR l 0 else bad 11:=by
 unfold scanR
 rw[if_neg (by omega)]
 simp only[Int.toNat_zero,List.drop_zero,Nat.zero_add,Int.zero_add]
theorem scan_good (l:List UInt8):(scanR l 0).e=0->validB (scanR l 0).k (scanR l 0).n (scanR l 0).t=true/\(-9223372036854775808<=(scanR l 0).n/\(scanR l 0).n<=9223372036854775807) /\
 ((showR (scanR l 0).k (scanR l 0).n (scanR l 0).t).length:Int)<=(scanR l 0).stop/\0<=(scanR l 0).stop/\(scanR l 0).stop<=l.length:=by
 rw[scan0]
 intro h
 split at h
 ·rename_i hp
  rw[if_pos hp]
  unfold textR at *
  cases hs:textScan (l.drop 1) with
  | none=>rw[hs] at h;simp [bad] at h
  | some p =>
    obtain⟨t,n⟩:=p
    rw[hs] at h
    simp only at h ⊢
    split at h
    ·simp [bad] at h
    ·rename_i h64
     rw[if_neg h64]
     obtain⟨g1,g2⟩:=textScan_good _ _ t n (Nat.le_refl _) hs
     have hv:validB 2 0 t=true:=by simp [validB];omega
     rw[List.length_drop] at g2
     refine⟨hv,⟨by simp,by simp⟩,?_,by simp only;omega,by simp only;omega⟩
     simp only[showR]
     rw[if_pos hv,if_neg (by decide)]
     simp;omega
 ·rename_i hp
  rw[if_neg hp]
  split at h
  ·rename_i hn
   rw[if_pos hn]
   unfold numR at *
   split at h
   ·simp [bad] at h
   ·rename_i hz
    rw[if_neg hz]
    cases hpz:Lib.parseIntB 64 (numTok l 0) with
    | ok v =>
      have hb:=Lib.parseIntB_bounds hpz
      have e:(2:Nat) ^ (64 - 1)=9223372036854775808:=by decide
      rw[e] at hb
      have hlen:=itoa_len hpz
      have hv:validB 1 v []=true:=by simp [validB]
      have htl:(numTok l 0).length<=l.length:=by unfold numTok;simp;omega
      refine⟨hv,⟨by simp only;omega,by simp only;omega⟩,?_,by simp only;omega,by simp only;omega⟩
      simp only[showR]
      rw[if_pos hv,if_pos trivial]
      omega
    | _=>rw[hpz] at h;simp [bad] at h
  ·simp [bad] at h
end Go.Proofs.YtgopfpjinohncaaGreatDoor
