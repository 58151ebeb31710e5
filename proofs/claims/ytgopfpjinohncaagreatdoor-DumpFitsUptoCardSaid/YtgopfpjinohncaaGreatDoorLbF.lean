/- strings.Builder as this program calls it: -/
import Derived.Test.YtgopfpjinohncaaGreatDoorShelfZF
import Derived.Lib.AppendIntMem
import Derived.StillTailTactics
import Derived.Deep.RegionHeld3
import Derived.Lib.ItoaLen
set_option maxHeartbeats 4000000
set_option maxRecDepth 100000
set_option linter.unusedVariables false
namespace Go.Proofs.YtgopfpjinohncaaGreatDoor
open Go.Proofs.Tryz
open Go.RowKit
theorem tG:(prog.info? 156).map (fun i=>i.size)=some 2:=by kernel_rfl
theorem og:(prog.info? 5).map (fun i=>(i.zero,i.size,i.bytes))=some (some (.int .u8 0),1,1):=by kernel_rfl
theorem Ak:liesAt prog prog.depth 156 (2 / prog.cellsOf 156) 0 156 1=true:=by kernel_rfl
theorem ij (b:Nat) (w:World) (h0:w.cell? ⟨b,0,none⟩=some (.pointer (some ⟨b,0,none⟩))) :
 Calls prog 172 #[.pointer (some ⟨b,0,none⟩)] w fun e w'=>e=.returned (.tuple #[])/\w=w':=by
 obtain⟨j,hj,_⟩:=Option.map_eq_some_iff.1 tG
 go_enter func172,ntmps172
 go_wp2
 rw[Lib.run_neq_ptr_same w _ underlying153 hj]
 go_wp2
 go_end0
 exact⟨rfl,rfl⟩
theorem g9 (b:Nat) (w:World) (h0:w.cell? ⟨b,0,none⟩=some (.pointer none)) (hsh:w.shape? b=some (156,2)) (hfz:w.frozen? ⟨b,0,none⟩=false) :
 Calls prog 172 #[.pointer (some ⟨b,0,none⟩)] w fun e w'=>e=.returned (.tuple #[])/\w'=w.setCell ⟨b,0,none⟩ (.pointer (some ⟨b,0,none⟩)):=by
 obtain⟨j,hj,hjs⟩:=Option.map_eq_some_iff.1 tG
 go_enter func172,ntmps172
 go_wp2
 rw[Lib.run_to_unsafe w ⟨b,0,none⟩ underlying153 underlying298 hj (by rw[hjs];decide) hsh (Nat.zero_lt_succ 1)]
 simp only[Result.andThen]
 rw[Oper.upon_value]
 go_wp2
 rw[run_callFunc_extern func217 (by kernel_rfl) (by kernel_rfl) (by kernel_rfl) (e:=Extern.AbiNoEscape.same) (by kernel_rfl)]
 rw[Lib.run_noEscape]
 simp only[Result.andThen]
 rw[Oper.upon_value]
 go_wp2
 rw[Lib.run_from_unsafe w ⟨b,0,none⟩ underlying298 underlying153 hj hsh Ak]
 simp only[Result.andThen]
 rw[Oper.upon_value]
 go_wp2
 go_end0
 exact⟨rfl,rfl⟩
theorem jo (B b:Nat) (bs:List Value) (w:World) (h:Lib.IsBuilder 156 5 B b bs w) :
 Calls prog 172 #[.pointer (some ⟨b,0,none⟩)] w fun e w'=>e=.returned (.tuple #[])/\(Lib.BuilderAt 156 5 B b (.pointer (some ⟨b,0,none⟩)) bs w'/\Below B w w'):=by
 rcases h with h | h
 ·refine (g9 b w h.cell0 h.shape h.frozen0).mono ?_
  rintro e w' ⟨rfl,rfl⟩
  exact⟨rfl,h.used _,(Below.refl B w).setCell (p:=⟨b,0,none⟩) h.1 _⟩
 ·refine (ij b w h.cell0).mono ?_
  rintro e w' ⟨rfl,rfl⟩
  exact⟨rfl,h,Below.refl B _⟩
theorem fW (B b:Nat) (bs:List Value) (c:Int) (w:World) (h:Lib.IsBuilder 156 5 B b bs w) (hlen:bs.length+1<=140737488355328) (hBw:B<=w.heap.size) :
 Calls prog 206 #[.pointer (some ⟨b,0,none⟩),.int .u8 c] w fun e w'=>e=.returned .nilIface/\(Lib.BuilderAt 156 5 B b (.pointer (some ⟨b,0,none⟩)) (bs++[.int .u8 c]) w'/\Below B w w'):=by
 obtain⟨i0,hi,hz0,hz1,hz2⟩:=info_parts og
 have HH:=Fx h
 clear h
 go_enter func206,ntmps206
 go_wp2_with fail
 refine (jo B b bs _ HH.out).mono ?_
 rintro e w1 ⟨rfl,h1,hb1⟩
 obtain⟨hB,v,hbk,hown,hne⟩:=h1
 have c0:w1.cell? ⟨b,0,none⟩=some (.pointer (some ⟨b,0,none⟩)):=by rw[Lib.cell_of_heap hbk];rfl
 have c1:w1.cell? ⟨b,1,none⟩=some v:=by rw[Lib.cell_of_heap hbk];rfl
 have HK:=Fx hbk
 have HO:=Fx hown
 have HN:=Fx hne
 clear hbk hown hne
 go_wp2_with (at_builtin;refine wpList_append_lies _ rfl (.tmp 11) (.tmp 13) 154 rfl B 5 i0 (.int .u8 0) 1 1 underlying154 hi hz0 hz1 hz2 rfl (by decide) v bs.length _ rfl (HO.out.alloc _) ⟨w1.heap.size,0,none⟩ 1 1 [.int .u8 c] rfl rfl (cell_one_new _ _ _) ?c2 (by decide) ?c3 (by omega) ?c5 (w1.heap.size+1) (by simp) ?_)
 case c2=>intro u hu;simp at hu;subst hu;rfl
 case c3=>unfold maxLen;omega
 case c5=>have:=hb1.size;simp;omega
 intro g cap w2 hown' hgrow hat hlt2
 have hlt:b<w1.heap.size:=by
  rcases Nat.lt_or_ge b w1.heap.size with h' | h'
  ·exact h'
  ·have:=HK.out;simp [Array.getElem?_eq_none h'] at this
 have hb2:w2.heap[b]? = some (.cells #[.pointer (some ⟨b,0,none⟩),v] 156 (0,0)):=by
  rw[hgrow.block b (by simp;omega) (fun e=>HN.out e.symm),Lib.alloc_old w1 _ b hlt]
  exact HK.out
 have d0:w2.cell? ⟨b,0,none⟩=some (.pointer (some ⟨b,0,none⟩)):=by rw[Lib.cell_of_heap hb2];rfl
 have d1:w2.cell? ⟨b,1,none⟩=some v:=by rw[Lib.cell_of_heap hb2];rfl
 have f1:w2.frozen? ⟨b,1,none⟩=false:=Lib.frozen_of_heap hb2 1
 have HB2:=Fx hb2
 have HO2:=Fx hown'
 clear hb2 hown'
 go_wp2_with fail
 go_ret
 refine⟨rfl,?_,?_⟩
 ·exact Lib.BuilderAt.put (T:=156) (e:=5) hB HB2.out (bs':=bs++[.int .u8 c]) (by simpa using HO2.out) (by decide)
 ·exact ((hb1.alloc (by have:=hb1.size;omega) _).grown hgrow (by have:=hb1.size;simp;omega) (fun k hk=>(HO.out.lt k hk).1)).setCell (p:=⟨b,1,none⟩) hB _
theorem mr (B b:Nat) (bs:List Value) (s:ByteArray) (w:World) (h:Lib.IsBuilder 156 5 B b bs w) (hlen:bs.length+s.size<=140737488355328) (hBw:B<=w.heap.size) :
 Calls prog 91 #[.pointer (some ⟨b,0,none⟩),.string s] w fun e w'=>e=.returned (.tuple #[.int .i64 s.size,.nilIface])/\(Lib.BuilderAt 156 5 B b (.pointer (some ⟨b,0,none⟩)) (bs++Lib.strCells s) w'/\Below B w w'):=by
 obtain⟨i0,hi,hz0,hz1,hz2⟩:=info_parts og
 have HH:=Fx h
 clear h
 go_enter func91,ntmps91
 go_wp2_with fail
 refine (jo B b bs _ HH.out).mono ?_
 rintro e w1 ⟨rfl,h1,hb1⟩
 obtain⟨hB,v,hbk,hown,hne⟩:=h1
 have c0:w1.cell? ⟨b,0,none⟩=some (.pointer (some ⟨b,0,none⟩)):=by rw[Lib.cell_of_heap hbk];rfl
 have c1:w1.cell? ⟨b,1,none⟩=some v:=by rw[Lib.cell_of_heap hbk];rfl
 have HK:=Fx hbk
 have HO:=Fx hown
 have HN:=Fx hne
 clear hbk hown hne
 go_wp2_with (at_builtin;refine Lib.wpList_append_own_string _ rfl _ _ 154 9 rfl B 5 i0 underlying154 underlying9 hi hz0 hz1 hz2 _ _ _ rfl HO.out s rfl ?c3 ?c4 ?c5 ?_)
 case c3=>unfold maxLen;omega
 case c4=>omega
 case c5=>have:=hb1.size;omega
 intro v' w2 hown' hgrow _
 have hlt:b<w1.heap.size:=by
  rcases Nat.lt_or_ge b w1.heap.size with h' | h'
  ·exact h'
  ·have:=HK.out;simp [Array.getElem?_eq_none h'] at this
 have hb2:w2.heap[b]? = some (.cells #[.pointer (some ⟨b,0,none⟩),v] 156 (0,0)):=by
  rw[hgrow.block b hlt (fun e=>HN.out e.symm)]
  exact HK.out
 have d0:w2.cell? ⟨b,0,none⟩=some (.pointer (some ⟨b,0,none⟩)):=by rw[Lib.cell_of_heap hb2];rfl
 have d1:w2.cell? ⟨b,1,none⟩=some v:=by rw[Lib.cell_of_heap hb2];rfl
 have f1:w2.frozen? ⟨b,1,none⟩=false:=Lib.frozen_of_heap hb2 1
 obtain⟨ao,n',cap,rfl⟩:∃ ao n' cap,v'=.slice ao n' cap:=by
  rcases hown'.2 with ⟨e,_⟩ | ⟨g,cap,cur,e,_⟩
  ·exact⟨_,_,_,e⟩
  ·exact⟨_,_,_,e⟩
 have HB2:=Fx hb2
 have HO2:=Fx hown'
 clear hb2 hown'
 go_wp2_with fail
 go_ret2
 refine⟨rfl,?_,?_⟩
 ·exact Lib.BuilderAt.put (T:=156) (e:=5) hB HB2.out (bs':=bs++Lib.strCells s) (by simpa [Lib.strCells_length] using HO2.out) (by decide)
 ·exact (hb1.grown hgrow (by have:=hb1.size;omega) (fun k hk=>(HO.out.lt k hk).1)).setCell (p:=⟨b,1,none⟩) hB _
abbrev nI (B b:Nat) (p:Value) (acc:List UInt8) (w:World):Prop:=Lib.BuilderAt 156 5 B b p (Lib.byteCells acc) w
abbrev wS (B b:Nat) (acc:List UInt8) (w:World):Prop:=Lib.IsBuilder 156 5 B b (Lib.byteCells acc) w
def gt (i:Int):UInt8:=UInt8.ofNat (if i<10 then 48+i else 87+i).toNat
theorem Am:∀ i:Fin 16,(ByteArray.mk #[48,49,50,51,52,53,54,55,56,57,97,98,99,100,101,102])[i.val]'(by have h:=i.isLt;exact h)=gt i.val:=by decide
theorem mL (i:Int) (h0:0<=i) (h1:i<16) (hp:i.toNat<(ByteArray.mk #[48,49,50,51,52,53,54,55,56,57,97,98,99,100,101,102]).size) :
 (ByteArray.mk #[48,49,50,51,52,53,54,55,56,57,97,98,99,100,101,102])[i.toNat]'hp=gt i:=by
 have:=Am ⟨i.toNat,by omega⟩
 simp only[Int.toNat_of_nonneg h0] at this
 exact this
def bA (c:Int):List UInt8 :=
 if c=34∨c=92 then [92,UInt8.ofNat c.toNat]
 else if c=10 then [92,110]
 else if c=9 then [92,116]
 else if 32<=c/\c<=126 then [UInt8.ofNat c.toNat]
 else [92,120,gt (c / 16),gt (c % 16)]
theorem xd (c:Int) (h0:0<=c) (h1:c<=255):Value.int .u8 c=Value.int .u8 ((UInt8.ofNat c.toNat).toNat:Int):=by
 congr 1
 rw[UInt8.toNat_ofNat']
 omega
theorem pO (a b:List UInt8):Lib.byteCells (a++b)=Lib.byteCells a++Lib.byteCells b:=by simp [Lib.byteCells]
theorem ez (B b:Nat) (acc:List UInt8) (c:Int) (w:World) (h:wS B b acc w) (hlen:acc.length+1<=140737488355328) (hBw:B<=w.heap.size) (h0:0<=c) (h1:c<=255) :
 Calls prog 206 #[.pointer (some ⟨b,0,none⟩),.int .u8 c] w fun e w'=>e=.returned .nilIface/\(nI B b (.pointer (some ⟨b,0,none⟩)) (acc++[UInt8.ofNat c.toNat]) w'/\Below B w w'):=by
 refine (fW B b _ c w h (by rw[Lib.byteCells_length];exact hlen) hBw).mono ?_
 rintro e w' ⟨rfl,h2,hb⟩
 refine⟨rfl,?_,hb⟩
 unfold nI
 rw[pO]
 rw[xd c h0 h1] at h2
 exact h2
theorem fR (B b:Nat) (acc:List UInt8) (s:ByteArray) (w:World) (h:wS B b acc w) (hlen:acc.length+s.size<=140737488355328) (hBw:B<=w.heap.size) :
 Calls prog 91 #[.pointer (some ⟨b,0,none⟩),.string s] w fun e w'=>e=.returned (.tuple #[.int .i64 s.size,.nilIface])/\(nI B b (.pointer (some ⟨b,0,none⟩)) (acc++s.data.toList) w'/\Below B w w'):=by
 refine (mr B b _ s w h (by rw[Lib.byteCells_length];exact hlen) hBw).mono ?_
 rintro e w' ⟨rfl,h2,hb⟩
 refine⟨rfl,?_,hb⟩
 unfold nI
 rw[pO]
 exact h2
theorem rg (B b:Nat) (acc:List UInt8) (c:Int) (w:World) (h:wS B b acc w) (hlen:acc.length+4<=140737488355328) (hBw:B<=w.heap.size) (h0:0<=c) (h1:c<=255) :
 Calls prog 207 #[.pointer (some ⟨b,0,none⟩),.int .u8 c] w fun e w'=>e=.returned (.tuple #[])/\nI B b (.pointer (some ⟨b,0,none⟩)) (acc++bA c) w'/\Below B w w':=by
 have HH:=Fx h
 clear h
 by_cases c1:c=34∨c=92
 ·have HE:Hid (acc++[92]++[UInt8.ofNat c.toNat]=acc++bA c):=Fx (by rw[bA,if_pos c1];simp)
  have q:(c == 34)=true∨((c == 34)=false/\(c == 92)=true):=by
   rcases c1 with rfl | rfl
   ·left;rfl
   ·right;exact⟨rfl,rfl⟩
  clear c1
  rcases q with q1 | ⟨q1,q2⟩
  all_goals
   go_enter func207,ntmps207
   go_wp2_with fail
   refine (ez B b acc 92 _ HH.out (by omega) hBw (by omega) (by omega)).mono ?_
   rintro e w1 ⟨rfl,hw1,hb1⟩
   have HW1:=Fx hw1
   clear hw1
   go_wp2_with fail
   refine (ez B b _ c _ (.inr HW1.out) (by simp;omega) (Nat.le_trans hBw hb1.size) h0 h1).mono ?_
   rintro e w2 ⟨rfl,hw2,hb2⟩
   have HW2:=Fx hw2
   clear hw2
   go_wp2_with fail
   go_end0
   exact⟨rfl,by rw[<-HE.out];exact HW2.out,hb1.trans hb2⟩
 ·have q1:(c == 34)=false:=by simp;omega
  have q2:(c == 92)=false:=by simp;omega
  by_cases c2:c=10
  ·have HE:Hid (bA c=[92,110]):=Fx (by rw[bA,if_neg c1,if_pos c2])
   have q3:(c == 10)=true:=by simpa using c2
   clear c1 c2
   go_enter func207,ntmps207
   go_wp2_with fail
   refine (fR B b acc _ _ HH.out (by have:(ByteArray.mk #[92,110]).size=2:=rfl;omega) hBw).mono ?_
   rintro e w1 ⟨rfl,hw1,hb1⟩
   have HW1:=Fx hw1
   clear hw1
   go_wp2_with fail
   go_end0
   exact⟨rfl,by rw[HE.out];exact HW1.out,hb1⟩
  ·have q3:(c == 10)=false:=by simpa using c2
   by_cases c3:c=9
   ·have HE:Hid (bA c=[92,116]):=Fx (by rw[bA,if_neg c1,if_neg c2,if_pos c3])
    have q4:(c == 9)=true:=by simpa using c3
    clear c1 c2 c3
    go_enter func207,ntmps207
    go_wp2_with fail
    refine (fR B b acc _ _ HH.out (by have:(ByteArray.mk #[92,116]).size=2:=rfl;omega) hBw).mono ?_
    rintro e w1 ⟨rfl,hw1,hb1⟩
    have HW1:=Fx hw1
    clear hw1
    go_wp2_with fail
    go_end0
    exact⟨rfl,by rw[HE.out];exact HW1.out,hb1⟩
   ·have q4:(c == 9)=false:=by simpa using c3
    by_cases c4:32<=c/\c<=126
    ·have HE:Hid (bA c=[UInt8.ofNat c.toNat]):=Fx (by rw[bA,if_neg c1,if_neg c2,if_neg c3,if_pos c4])
     obtain⟨c5,c6⟩:=c4
     clear c1 c2 c3
     go_enter func207,ntmps207
     go_wp2_with fail
     refine (ez B b acc c _ HH.out (by omega) hBw h0 h1).mono ?_
     rintro e w1 ⟨rfl,hw1,hb1⟩
     have HW1:=Fx hw1
     clear hw1
     go_wp2_with fail
     go_end0
     exact⟨rfl,by rw[HE.out];exact HW1.out,hb1⟩
    ·have HE:Hid (bA c=[92,120,gt (c / 16),gt (c % 16)]):=Fx (by rw[bA,if_neg c1,if_neg c2,if_neg c3,if_neg c4])
     have c5:c<32∨126<c:=by omega
     clear c1 c2 c3 c4
     rcases c5 with c5 | c5
     all_goals
      go_enter func207,ntmps207
      go_wp2_with fail
      refine (fR B b acc _ _ HH.out (by have:(ByteArray.mk #[92,120]).size=2:=rfl;omega) hBw).mono ?_
      rintro e w1 ⟨rfl,hw1,hb1⟩
      have HW1:=Fx hw1
      clear hw1
      go_wp2_with fail
      refine (fW B b _ _ _ (.inr HW1.out) (by rw[Lib.byteCells_length];simp;omega) (Nat.le_trans hBw hb1.size)).mono ?_
      rintro e w2 ⟨rfl,hw2,hb2⟩
      rw[mL (c / 16) (by omega) (by omega)] at hw2
      have HW2:=Fx hw2
      clear hw2
      go_wp2_with fail
      refine (fW B b _ _ _ (.inr HW2.out) (by rw[List.length_append,Lib.byteCells_length];simp;omega) (Nat.le_trans hBw (Nat.le_trans hb1.size hb2.size))).mono ?_
      rintro e w3 ⟨rfl,hw3,hb3⟩
      rw[mL (c % 16) (by omega) (by omega)] at hw3
      have HW3:=Fx hw3
      clear hw3
      go_wp2_with fail
      go_end0
      refine⟨rfl,?_,(hb1.trans hb2).trans hb3⟩
      have e:Lib.byteCells (acc++bA c)=Lib.byteCells (acc++(ByteArray.mk #[92,120]).data.toList)++[.int .u8 ((gt (c / 16)).toNat:Int)]++[.int .u8 ((gt (c % 16)).toNat:Int)]:=by
       rw[HE.out];simp [Lib.byteCells]
      unfold nI
      rw[e]
      exact HW3.out
def ax (k n:Int) (t:List UInt8):Bool:=decide (k=1/\t=[]∨k=2/\n=0/\t.length<=64)
theorem j7 (t:ByteArray):t.toList.isEmpty=t.data.toList.isEmpty:=by rw[ByteArray.toList_eq]
theorem eV (k n:Int) (t:ByteArray) (w:World) :
 Calls prog 157 #[.agg #[.int .i64 k,.int .i64 n,.string t]] w fun e w'=>e=.returned (.bool (ax k n t.data.toList))/\w'=w.alloc (.cells #[.int .i64 k,.int .i64 n,.string t] 111):=by
 by_cases k1:k=1
 ·subst k1
  by_cases ht:t.data.toList=[]
  ·have HE:Hid (ax 1 n t.data.toList=true):=Fx (by simp [ax,ht])
   have q:t.toList.isEmpty=true:=by rw[j7,ht];rfl
   clear ht
   go_enter func157,ntmps157
   go_wp2
   go_ret
   exact⟨by rw[HE.out];rfl,rfl⟩
  ·have HE:Hid (ax 1 n t.data.toList=false):=Fx (by simp only[ax,ht];simp)
   have q:t.toList.isEmpty=false:=by rw[j7];cases h:t.data.toList with | nil=>exact absurd h ht | cons _ _=>rfl
   clear ht
   go_enter func157,ntmps157
   go_wp2
   go_ret
   exact⟨by rw[HE.out];rfl,rfl⟩
 ·have q1:(k == 1)=false:=by simpa using k1
  have hl:t.data.toList.length=t.size:=rfl
  by_cases k2:k=2
  ·have q2:(k == 2)=true:=by simpa using k2
   have HE:Hid (ax k n t.data.toList=decide (n=0/\t.size<=64)):=Fx (by simp only[ax,k2,hl];simp)
   by_cases n0:n=0
   ·have q3:(n == 0)=true:=by simpa using n0
    have HE2:Hid (ax k n t.data.toList=decide (t.size<=64)):=Fx (by rw[HE.out];simp [n0])
    by_cases h64:t.size<=64
    ·have HE3:Hid (ax k n t.data.toList=true):=Fx (by rw[HE2.out];simp [h64])
     have h64':decide ((t.size:Int)<=64)=true:=by simp;omega
     clear k1 k2 n0 hl
     go_enter func157,ntmps157
     go_wp2
     go_ret
     exact⟨by rw[HE3.out];rfl,rfl⟩
    ·have HE3:Hid (ax k n t.data.toList=false):=Fx (by rw[HE2.out];simp;omega)
     have h65:64<t.size:=by omega
     have h65':decide ((t.size:Int)<=64)=false:=by simp;omega
     clear k1 k2 n0 hl h64
     go_enter func157,ntmps157
     go_wp2
     go_ret
     exact⟨by rw[HE3.out];rfl,rfl⟩
   ·have q3:(n == 0)=false:=by simpa using n0
    have HE3:Hid (ax k n t.data.toList=false):=Fx (by rw[HE.out];simp [n0])
    clear k1 k2 n0 hl
    go_enter func157,ntmps157
    go_wp2
    go_ret
    exact⟨by rw[HE3.out];rfl,rfl⟩
  ·have q2:(k == 2)=false:=by simpa using k2
   have HE3:Hid (ax k n t.data.toList=false):=Fx (by simp [ax,k1,k2])
   clear k1 k2 hl
   go_enter func157,ntmps157
   go_wp2
   go_ret
   exact⟨by rw[HE3.out];rfl,rfl⟩
def bN (t:List UInt8):List UInt8:=t.flatMap fun c=>bA c.toNat
def aW (k n:Int) (t:List UInt8):List UInt8:=if ax k n t then (if k=1 then Lib.itoa n else 34::(bN t++[34])) else []
theorem lq (t:List UInt8):(bN t).length<=t.length * 4:=by
 induction t with
 | nil=>simp [bN]
 | cons c t ih =>
   have:(bA c.toNat).length<=4:=by unfold bA;(repeat' split)<;>simp
   simp only[bN,List.flatMap_cons,List.length_append,List.length_cons] at *
   omega
theorem zW (k n:Int) (t:ByteArray) (w:World) (h:ax k n t.data.toList=false) :
 Calls prog 150 #[.agg #[.int .i64 k,.int .i64 n,.string t]] w fun e w'=>e=.returned (.string ⟨(aW k n t.data.toList).toArray⟩)/\Below w.heap.size w w':=by
 have HE:Hid (aW k n t.data.toList=[]):=Fx (by rw[aW,h];rfl)
 go_enter func150,ntmps150
 go_wp2_with fail
 refine (eV k n t _).mono ?_
 rintro e w1 ⟨rfl,rfl⟩
 rw[h]
 go_wp2_with fail
 go_ret
 exact⟨by rw[HE.out];rfl,ae (ae Fy _) _⟩
theorem A1 (n:Int) (t:ByteArray) (w:World) (h:ax 1 n t.data.toList=true) (h0 : -9223372036854775808<=n) (h1:n<=9223372036854775807) (hg:bY w) :
 Calls prog 150 #[.agg #[.int .i64 1,.int .i64 n,.string t]] w fun e w'=>e=.returned (.string ⟨(aW 1 n t.data.toList).toArray⟩)/\Below w.heap.size w w':=by
 have HE:Hid (aW 1 n t.data.toList=Lib.itoa n):=Fx (by rw[aW,h];rfl)
 have hb0:Below w.heap.size w ((w.alloc (.cells #[.int .i64 1,.int .i64 n,.string t] 111)).alloc (.cells #[.int .i64 1,.int .i64 n,.string t] 111)):=ae (ae Fy _) _
 have HF:=Fx (Tryz.strconv_FormatInt_10 n h0 h1 _ (hg.below hb0).tab)
 have HB:=Fx hb0
 clear hg hb0
 go_enter func150,ntmps150
 go_wp2_with fail
 refine (eV 1 n t _).mono ?_
 rintro e w1 ⟨rfl,rfl⟩
 rw[h]
 go_wp2_with fail
 refine HF.out.mono ?_
 rintro e w2 ⟨rfl,k,os,rfl⟩
 go_wp2_with fail
 go_ret
 exact⟨by rw[HE.out];rfl,HB.out.trans (Lib.below_grow _ _ (by simp;omega) _ _)⟩
/-! numbers -/
theorem uP {k:Nat}:∀ {u:Nat},u<10 ^ (k+1)->Lib.nDigits u<=k+1:=by
 induction k with
 | zero=>intro u h;rw[Lib.nDigits_small (by simpa using h)];exact Nat.le_refl _
 | succ k ih =>
   intro u h
   by_cases hu:u<10
   ·rw[Lib.nDigits_small hu];omega
   ·rw[Lib.nDigits_big hu]
    have:=ih (u:=u / 10) (by rw[Nat.pow_succ] at h;omega)
    omega
theorem ng (M:Nat) (c:UInt8):∀ (l:List UInt8) (acc v:Nat),Lib.parseUintM M acc l=.ok v->Lib.parseUintM M acc (l++[c])=Lib.parseUintM M v [c]
 | [],acc,v,h=>by
   simp only[Lib.parseUintM] at h
   injection h with h
   subst h
   rfl
 | x::r,acc,v,h=>by
   simp only[List.cons_append]
   simp only[Lib.parseUintM] at h ⊢
   split at h
   ·rename_i hd
    rw[if_pos hd]
    split at h
    ·cases h
    ·rename_i h1
     rw[if_neg h1]
     split at h
     ·cases h
     ·rename_i h2
      rw[if_neg h2]
      have:=ng M c r _ v h
      simpa only [Lib.parseUintM] using this
   ·cases h
theorem jZ {d:Nat} (h:d<10):(UInt8.ofNat (48+d)).toNat=48+d:=by rw[UInt8.toNat_ofNat'];omega
theorem pA (u:Nat) (h:u<=18446744073709551615):Lib.parseUintM 18446744073709551615 0 (Lib.decDigits u)=.ok u:=by
 induction u using Nat.strongRecOn with
 | ind u ih =>
   rw[Lib.decDigits]
   by_cases hu:u<10
   ·rw[dif_pos hu]
    simp only[Lib.parseUintM,jZ hu]
    rw[if_pos (by omega),if_neg (by omega),if_neg (by omega)]
    congr 1;omega
   ·rw[dif_neg hu]
    rw[ng _ _ _ _ (u / 10) (ih (u / 10) (by omega) (by omega))]
    have hd:u % 10<10:=Nat.mod_lt _ (by decide)
    simp only[Lib.parseUintM,jZ hd]
    rw[if_pos (by omega),if_neg (by omega),if_neg (by omega)]
    congr 1;omega
theorem tK (M:Nat):∀ (l:List UInt8) (acc u:Nat),Lib.parseUintM M acc l=.ok u->u<(acc+1) * 10 ^ l.length
 | [],acc,u,h=>by
   simp only[Lib.parseUintM] at h
   injection h with h
   simp;omega
 | c::r,acc,u,h=>by
   simp only[Lib.parseUintM] at h
   split at h
   ·split at h
    ·cases h
    ·split at h
     ·cases h
     ·have:=tK M r _ u h
      rw[List.length_cons,Nat.pow_succ,Nat.mul_comm (10 ^ r.length),<-Nat.mul_assoc]
      refine Nat.lt_of_lt_of_le this (Nat.mul_le_mul_right _ ?_)
      omega
   ·cases h
theorem ee (u:Nat):∀ c∈Lib.decDigits u,au c.toNat=true:=by
 induction u using Nat.strongRecOn with
 | ind u ih =>
   intro c hc
   rw[Lib.decDigits] at hc
   by_cases hu:u<10
   ·rw[dif_pos hu] at hc
    simp only[List.mem_singleton] at hc
    subst hc
    rw[jZ hu];simp [au];omega
   ·rw[dif_neg hu,List.mem_append] at hc
    rcases hc with hc | hc
    ·exact ih _ (by omega) c hc
    ·simp only[List.mem_singleton] at hc
     subst hc
     rw[jZ (Nat.mod_lt _ (by decide))];simp [au];omega
theorem gS (u:Nat):Lib.decDigits u≠[]:=by
 intro h
 have:=Lib.decDigits_length u
 rw[h] at this
 have:=Lib.nDigits_pos u
 simp at *;omega
theorem so (u:Nat) (h:bt (Lib.decDigits u) 0=48):u=0:=by
 induction u using Nat.strongRecOn with
 | ind u ih =>
   rw[Lib.decDigits] at h
   by_cases hu:u<10
   ·rw[dif_pos hu] at h
    simp only[bt,List.getD_cons_zero,jZ hu] at h
    omega
   ·rw[dif_neg hu] at h
    have e:bt (Lib.decDigits (u / 10)++[UInt8.ofNat (48+u % 10)]) 0=bt (Lib.decDigits (u / 10)) 0:=by
     have hl:0<(Lib.decDigits (u / 10)).length:=List.length_pos_iff.2 (gS _)
     unfold bt
     rw[List.getD_eq_getElem?_getD,List.getD_eq_getElem?_getD,List.getElem?_append_left hl]
    rw[e] at h
    have:=ih (u / 10) (by omega) h
    omega
theorem zH {l:List UInt8} (h:∀ c∈l,au c.toNat=true):d9 l=l.length:=by
 unfold d9
 induction l with
 | nil=>rfl
 | cons c l ih =>
   rw[List.takeWhile_cons,if_pos (h c List.mem_cons_self),List.length_cons,ih fun x hx=>h x (List.mem_cons_of_mem _ hx),List.length_cons]
theorem zE (c:UInt8) (l:List UInt8):bt (c::l) 0=c.toNat:=by simp [bt]
theorem gG (n:Int):(∃ u:Nat,n=(u:Int)/\Lib.itoa n=Lib.decDigits u)∨∃ u:Nat,1<=u/\n = -(u:Int)/\Lib.itoa n=45::Lib.decDigits u:=by
 by_cases h:n<0
 ·exact .inr ⟨n.natAbs,by omega,by omega,by unfold Lib.itoa;rw[if_pos h]⟩
 ·exact .inl ⟨n.toNat,by omega,by unfold Lib.itoa;rw[if_neg h]⟩
theorem uT (n:Int) (h0 : -9223372036854775808<=n) (h1:n<=9223372036854775807):Lib.parseIntB 64 (Lib.itoa n)=.ok n:=by
 have e:(2:Nat) ^ (64 - 1)=9223372036854775808:=by decide
 have e2:(2:Nat) ^ 64 - 1=18446744073709551615:=by decide
 rcases gG n with ⟨u,rfl,hi⟩ | ⟨u,hu,rfl,hi⟩
 ·rw[hi]
  have hp:=pA u (by omega)
  cases hd:Lib.decDigits u with
  | nil=>exact absurd hd (gS u)
  | cons c r =>
    have hc:=ee u c (by rw[hd];exact List.mem_cons_self)
    simp only[au,decide_eq_true_eq] at hc
    rw[Lib.parseIntB_plain 64 c r (by omega) (by omega)]
    unfold Lib.parseUintB
    rw[if_neg (by simp),<-hd,e,e2,hp]
    simp only[Lib.signlessC]
    rw[if_neg (by omega)]
 ·rw[hi,Lib.parseIntB_minus]
  unfold Lib.parseUintB
  rw[if_neg (gS u),e,e2,pA u (by omega)]
  simp only[Lib.signedC]
  rw[if_neg (by omega)]
theorem Av (u:Nat):Lib.trimPrefix (Lib.decDigits u) [45]=Lib.decDigits u:=by
 unfold Lib.trimPrefix
 rw[if_neg]
 cases hd:Lib.decDigits u with
 | nil=>exact absurd hd (gS u)
 | cons c r =>
   have hc:=ee u c (by rw[hd];exact List.mem_cons_self)
   simp only[au,decide_eq_true_eq] at hc
   simp only[Lib.hasPrefix,List.isPrefixOf]
   intro h
   simp only[Bool.and_true,beq_iff_eq] at h
   subst h
   simp at hc
theorem ug (n:Int):aM (Lib.itoa n) 0=Lib.itoa n/\¬ (bt (Lib.trimPrefix (Lib.itoa n) [45]) 0=48/\1<(Lib.itoa n).length)/\d7 (Lib.itoa n)=true/\Lib.hasPrefix (Lib.itoa n) [34]=false:=by
 have tok:∀ (c:UInt8) (l:List UInt8),(∀ c∈l,au c.toNat=true)->aM (c::l) 0=c::l:=by
  intro c l h
  unfold aM
  simp only[List.drop_zero,Nat.zero_add,List.drop_succ_cons]
  rw[zH h]
  apply List.take_of_length_le
  simp only[List.length_cons];omega
 rcases gG n with ⟨u,rfl,hi⟩ | ⟨u,hu,rfl,hi⟩
 ·rw[hi,Av]
  refine⟨?_,?_,?_,?_⟩
  ·cases hd:Lib.decDigits u with
   | nil=>exact absurd hd (gS u)
   | cons c r=>exact tok c r fun x hx=>ee u x (by rw[hd];exact List.mem_cons_of_mem _ hx)
  ·rintro ⟨h,hl⟩
   obtain rfl:=so u h
   rw[Lib.decDigits_length,Lib.nDigits_small (by decide)] at hl
   omega
  ·cases hd:Lib.decDigits u with
   | nil=>exact absurd hd (gS u)
   | cons c r =>
     have hc:=ee u c (by rw[hd];exact List.mem_cons_self)
     unfold d7
     rw[zE,hc];simp
  ·cases hd:Lib.decDigits u with
   | nil=>exact absurd hd (gS u)
   | cons c r =>
     have hc:=ee u c (by rw[hd];exact List.mem_cons_self)
     simp only[au,decide_eq_true_eq] at hc
     simp only[Lib.hasPrefix,List.isPrefixOf,Bool.and_true,beq_eq_false_iff_ne]
     rintro rfl
     simp at hc
 ·rw[hi]
  refine⟨tok _ _ (ee u),?_,?_,rfl⟩
  ·have e:Lib.trimPrefix (45::Lib.decDigits u) [45]=Lib.decDigits u:=by simp [Lib.trimPrefix,Lib.hasPrefix,List.isPrefixOf]
   rw[e]
   rintro ⟨h,_⟩
   have:=so u h
   omega
  ·cases hd:Lib.decDigits u with
   | nil=>exact absurd hd (gS u)
   | cons c r =>
     have hc:=ee u c (by rw[hd];exact List.mem_cons_self)
     have e1:bt (45::c::r) 1=c.toNat:=by simp [bt]
     unfold d7
     rw[zE,e1,hc];simp
theorem xR (n:Int) (h0 : -9223372036854775808<=n) (h1:n<=9223372036854775807):aD (Lib.itoa n) 0=⟨1,n,[],(Lib.itoa n).length,0⟩:=by
 obtain⟨a,b,c,d⟩:=ug n
 unfold aD
 rw[if_neg (by omega)]
 simp only[Int.toNat_zero,List.drop_zero]
 rw[d,c,if_neg (by simp),if_pos rfl]
 unfold fT
 rw[a,if_neg b,uT n h0 h1]
 simp
/-! texts -/
theorem zK:∀ i:Fin 16,dY ((gt i.val).toNat:Int)=i.val:=by decide +kernel
theorem pW {i:Int} (h0:0<=i) (h1:i<16):dY ((gt i).toNat:Int)=i:=by
 have:=zK ⟨i.toNat,by omega⟩
 simpa only [Int.toNat_of_nonneg h0] using this
theorem EY (a b:UInt8) (l:List UInt8):bt (a::b::l) 1=b.toNat:=by simp [bt]
theorem Fi (a b c:UInt8) (l:List UInt8):bt (a::b::c::l) 2=c.toNat:=by simp [bt]
theorem Fk (a b c d:UInt8) (l:List UInt8):bt (a::b::c::d::l) 3=d.toNat:=by simp [bt]
theorem vr (c:UInt8) (r:List UInt8):aC (bA c.toNat++r)=((c.toNat:Int),((bA c.toNat).length:Int))/\bt (bA c.toNat++r) 0≠34/\bA c.toNat≠[]:=by
 have hb:(UInt8.ofNat ((c.toNat:Int)).toNat)=c:=by simp
 have hlt:=c.toNat_lt
 unfold bA
 rw[hb]
 split
 ·rename_i h
  refine⟨?_,by simp [zE],by simp⟩
  simp only[List.cons_append,List.nil_append,aC,zE,EY]
  rw[if_neg (by simp),if_neg (by simp;omega),if_pos (by simpa using h)]
  rfl
 ·rename_i h
  split
  ·rename_i h10
   refine⟨?_,by simp [zE],by simp⟩
   simp only[List.cons_append,List.nil_append,aC,zE,EY]
   rw[if_neg (by simp),if_neg (by simp;omega),if_neg (by simp),if_pos (by simp)]
   simp [h10]
  ·split
   ·rename_i h9
    refine⟨?_,by simp [zE],by simp⟩
    simp only[List.cons_append,List.nil_append,aC,zE,EY]
    rw[if_neg (by simp),if_neg (by simp;omega),if_neg (by simp),if_neg (by simp),if_pos (by simp)]
    simp [h9]
   ·split
    ·rename_i h32
     refine⟨?_,?_,by simp⟩
     ·simp only[List.cons_append,List.nil_append,aC,zE]
      rw[if_pos (by omega),if_neg (by omega),if_neg (by omega)]
      rfl
     ·simp only[List.cons_append,List.nil_append,zE]
      omega
    ·refine⟨?_,by simp [zE],by simp⟩
     simp only[List.cons_append,List.nil_append,aC,zE,EY,Fi,Fk]
     have e1:=pW (i:=(c.toNat:Int) / 16) (by omega) (by omega)
     have e2:=pW (i:=(c.toNat:Int) % 16) (by omega) (by omega)
     rw[e1,e2]
     rw[if_neg (by simp),if_neg (by simp;omega),if_neg (by simp),if_neg (by simp),if_neg (by simp),if_pos (by simp),if_neg (by simp;omega),if_neg (by omega),if_neg (by omega)]
     refine Prod.ext ?_ ?_
     ·simp only;omega
     ·simp
theorem oT (t r:List UInt8):aL (bN t++34::r)=some (t,(bN t).length):=by
 induction t with
 | nil =>
   rw[show bN []++34::r=34::r from rfl,cx (by simp) (by simp [bt])]
   rfl
 | cons c t ih =>
   obtain⟨a,b,d⟩:=vr c (bN t++34::r)
   have e:bN (c::t)++34::r=bA c.toNat++(bN t++34::r):=by simp [bN]
   have el:(bN (c::t)).length=(bA c.toNat).length+(bN t).length:=by simp [bN]
   have hl:0<(bA c.toNat).length:=List.length_pos_iff.2 d
   rw[e,dA (by simp [d]) b (by rw[a];simp only;omega),a]
   simp only[Int.toNat_natCast,List.drop_left,ih,Option.map_some]
   rw[el]
   have hb:(UInt8.ofNat c.toNat)=c:=by simp
   rw[hb]
   congr 2
   omega
theorem uN {l:List UInt8} (hl:l≠[]) (hq34:bt l 0≠34) (h:(aC l).2≠0):((bA (aC l).1).length:Int)<=(aC l).2:=by
 have h4:∀ c:Int,(bA c).length<=4:=by intro c;unfold bA;(repeat' split)<;>simp
 have h0:=wP l 0
 have h1:=wP l 1
 revert h
 unfold aC
 repeat' split
 all_goals (intro h;simp only at h ⊢)
 all_goals first
  | (exact absurd rfl h)
  | (have:=h4 (dY (bt l 2) * 16+dY (bt l 3));omega)
  | skip
 all_goals unfold bA
 ·rename_i hq h32 h126
  rw[if_neg (by omega),if_neg (by omega),if_neg (by omega),if_pos (by omega)];simp
 ·rename_i hq;rw[if_pos hq];simp
 ·simp
 ·simp
theorem jw:∀ (m:Nat) (l t:List UInt8) (n:Nat),l.length<=m->aL l=some (t,n)->(bN t).length<=n/\n<l.length:=by
 intro m
 induction m with
 | zero =>
   intro l t n hl h
   have:l=[]:=List.length_eq_zero_iff.1 (by omega)
   subst this
   rw[dV] at h
   cases h
 | succ m ih =>
   intro l t n hl h
   by_cases h0:l=[]
   ·subst h0;rw[dV] at h;cases h
   have hpos:0<l.length:=List.length_pos_iff.2 h0
   by_cases hq:bt l 0=34
   ·rw[cx h0 hq] at h
    injection h with h
    injection h with ht hn
    subst ht hn
    exact⟨FA,hpos⟩
   by_cases hn:(aC l).2=0
   ·rw[gR h0 hq hn] at h;cases h
   obtain⟨hc,b0,b1,b2⟩:=kJ l h0
   rw[dA h0 hq hn] at h
   cases hr:aL (l.drop (aC l).2.toNat) with
   | none=>rw[hr] at h;cases h
   | some p =>
     obtain⟨t',n'⟩:=p
     rw[hr] at h
     injection h with h
     injection h with ht hn'
     subst ht hn'
     have hd:(l.drop (aC l).2.toNat).length=l.length - (aC l).2.toNat:=List.length_drop
     obtain⟨g1,g2⟩:=ih _ t' n' (by omega) hr
     have gs:=uN h0 hq hn
     have e:((UInt8.ofNat (aC l).1.toNat).toNat:Int)=(aC l).1:=by rw[UInt8.toNat_ofNat'];omega
     have el:(bN (UInt8.ofNat (aC l).1.toNat::t')).length=(bA (aC l).1).length+(bN t').length:=by
      simp only[bN,List.flatMap_cons,List.length_append,e]
     rw[el]
     simp only at *
     omega
/-! values -/
theorem vw (l:List UInt8):aD (34::l) 0=df l 1:=by
 unfold aD
 rw[if_neg (by simp;omega)]
 rw[if_pos (by simp [Lib.hasPrefix,List.isPrefixOf])]
 simp
theorem Ce {l:List UInt8} {n:Int} (h:Lib.parseIntB 64 l=.ok n):(Lib.itoa n).length<=l.length:=by
 have e2:(2:Nat) ^ 64 - 1=18446744073709551615:=by decide
 have key:∀ (r:List UInt8) (u:Nat),Lib.parseUintB 64 r=.ok u->(Lib.decDigits u).length<=r.length/\r≠[]:=by
  intro r u hu
  unfold Lib.parseUintB at hu
  split at hu
  ·cases hu
  ·rename_i hr
   refine⟨?_,hr⟩
   have hb:=tK _ _ _ _ hu
   have hpos:0<r.length:=List.length_pos_iff.2 hr
   rw[Lib.decDigits_length]
   obtain⟨k,hk⟩:∃ k,r.length=k+1:=⟨r.length - 1,by omega⟩
   rw[hk] at hb ⊢
   exact uP (by simpa using hb)
 have pos:∀ u:Nat,(Lib.itoa (u:Int)).length=(Lib.decDigits u).length:=by
  intro u;unfold Lib.itoa;rw[if_neg (by omega)];simp
 cases l with
 | nil=>cases h
 | cons c r =>
   by_cases h43:c=43
   ·subst h43
    rw[Lib.parseIntB_plus] at h
    cases hu:Lib.parseUintB 64 r with
    | ok u =>
      rw[hu] at h
      simp only[Lib.signlessC] at h
      split at h
      ·cases h
      ·injection h with h
       subst h
       have:=(key r u hu).1
       rw[pos,List.length_cons];omega
    | _=>rw[hu] at h;cases h
   by_cases h45:c=45
   ·subst h45
    rw[Lib.parseIntB_minus] at h
    cases hu:Lib.parseUintB 64 r with
    | ok u =>
      rw[hu] at h
      simp only[Lib.signedC] at h
      split at h
      ·cases h
      ·injection h with h
       subst h
       have:=(key r u hu).1
       have hl:(Lib.itoa (-(u:Int))).length<=1+(Lib.decDigits u).length:=by
        by_cases h0:u=0
        ·subst h0
         have:=pos 0
         simp at *;omega
        ·unfold Lib.itoa
         rw[if_pos (by omega)]
         simp;omega
       rw[List.length_cons];omega
    | _=>rw[hu] at h;cases h
   ·rw[Lib.parseIntB_plain 64 c r (fun e=>h43 (UInt8.toNat_inj.1 e)) (fun e=>h45 (UInt8.toNat_inj.1 e))] at h
    cases hu:Lib.parseUintB 64 (c::r) with
    | ok u =>
      rw[hu] at h
      simp only[Lib.signlessC] at h
      split at h
      ·cases h
      ·injection h with h
       subst h
       have:=(key _ u hu).1
       rw[pos];exact this
    | _=>rw[hu] at h;cases h
theorem np (l:List UInt8):aD l 0=if Lib.hasPrefix l [34]=true then df (l.drop 1) 1 else if d7 l=true then fT l 0 else bad 11:=by
 unfold aD
 rw[if_neg (by omega)]
 simp only[Int.toNat_zero,List.drop_zero,Nat.zero_add,Int.zero_add]
theorem ES (b l:List UInt8):aD (b++l) b.length=if Lib.hasPrefix l [34]=true then df (l.drop 1) (b.length+1) else if d7 l=true then fT (b++l) b.length else bad 11:=by
 have hd1:(b++l).drop (b.length+1)=l.drop 1:=by
  rw[List.drop_append,List.drop_eq_nil_of_le (by omega),List.nil_append];congr 1;omega
 unfold aD
 rw[if_neg (by simp;omega)]
 simp only[Int.toNat_natCast,List.drop_left,hd1]
theorem qe (l:List UInt8):(aD l 0).e=0->ax (aD l 0).k (aD l 0).n (aD l 0).t=true/\(-9223372036854775808<=(aD l 0).n/\(aD l 0).n<=9223372036854775807) /\
 ((aW (aD l 0).k (aD l 0).n (aD l 0).t).length:Int)<=(aD l 0).stop/\0<=(aD l 0).stop/\(aD l 0).stop<=l.length:=by
 rw[np]
 intro h
 split at h
 ·rename_i hp
  rw[if_pos hp]
  unfold df at *
  cases hs:aL (l.drop 1) with
  | none=>rw[hs] at h;simp [bad] at h
  | some p =>
    obtain⟨t,n⟩:=p
    rw[hs] at h
    simp only at h ⊢
    split at h
    ·simp [bad] at h
    ·rename_i h64
     rw[if_neg h64]
     obtain⟨g1,g2⟩:=jw _ _ t n FA hs
     have hv:ax 2 0 t=true:=by simp [ax];omega
     rw[List.length_drop] at g2
     refine⟨hv,⟨by simp,by simp⟩,?_,by simp only;omega,by simp only;omega⟩
     simp only[aW]
     rw[if_pos hv,if_neg (by decide)]
     simp;omega
 ·rename_i hp
  rw[if_neg hp]
  split at h
  ·rename_i hn
   rw[if_pos hn]
   unfold fT at *
   split at h
   ·simp [bad] at h
   ·rename_i hz
    rw[if_neg hz]
    cases hpz:Lib.parseIntB 64 (aM l 0) with
    | ok v =>
      have hb:=Lib.parseIntB_bounds hpz
      have e:(2:Nat) ^ (64 - 1)=9223372036854775808:=by decide
      rw[e] at hb
      have hlen:=Ce hpz
      have hv:ax 1 v []=true:=by simp [ax]
      have htl:(aM l 0).length<=l.length:=by unfold aM;simp;omega
      refine⟨hv,⟨by simp only;omega,by simp only;omega⟩,?_,by simp only;omega,by simp only;omega⟩
      simp only[aW]
      rw[if_pos hv,if_pos trivial]
      omega
    | _=>rw[hpz] at h;simp [bad] at h
  ·simp [bad] at h
theorem uM (b l:List UInt8):aD (b++l) b.length=⟨(aD l 0).k,(aD l 0).n,(aD l 0).t,if (aD l 0).e=0 then b.length+(aD l 0).stop else 0,(aD l 0).e⟩:=by
 rw[np,ES]
 by_cases hp:Lib.hasPrefix l [34]=true
 ·rw[if_pos hp,if_pos hp]
  unfold df
  cases aL (l.drop 1) with
  | none=>rfl
  | some p =>
    obtain⟨t,n⟩:=p
    simp only
    by_cases h64:64<t.length
    ·rw[if_pos h64,if_pos h64];rfl
    ·rw[if_neg h64,if_neg h64]
     simp only[if_true]
     congr 1
     omega
 ·rw[if_neg hp,if_neg hp]
  by_cases hn:d7 l=true
  ·rw[if_pos hn,if_pos hn]
   have hd1:(b++l).drop (b.length+1)=l.drop 1:=by
    rw[List.drop_append,List.drop_eq_nil_of_le (by omega),List.nil_append];congr 1;omega
   have ht:aM (b++l) b.length=aM l 0:=by unfold aM;rw[List.drop_left,hd1];rfl
   unfold fT
   rw[ht]
   by_cases hz:bt (Lib.trimPrefix (aM l 0) [45]) 0=48/\1<(aM l 0).length
   ·rw[if_pos hz,if_pos hz];rfl
   ·rw[if_neg hz,if_neg hz]
    cases Lib.parseIntB 64 (aM l 0) with
    | ok v=>simp
    | _=>rfl
  ·rw[if_neg hn,if_neg hn];rfl
theorem sC {l:List UInt8}:∀ c∈l.take (d9 l),au c.toNat=true:=by
 induction l with
 | nil=>intro c hc;simp at hc
 | cons x r ih =>
   intro c hc
   unfold d9 at *
   rw[List.takeWhile_cons] at hc
   split at hc
   ·rename_i hx
    rw[List.length_cons,List.take_succ_cons,List.mem_cons] at hc
    rcases hc with rfl | hc
    ·exact hx
    ·exact ih c hc
   ·simp at hc
def ew (a b:Int):Int:=if a<b then -1 else if b<a then 1 else 0
def Cj (x y z:Int):Int:=if x=0 then (if y=0 then z else y) else x
theorem sD (a b:Int) (w:World):Calls prog 229 #[.int .i64 a,.int .i64 b] w fun e w'=>e=.returned (.int .i64 (ew a b))/\w=w':=by
 have t0:(a != a)=false:=by simp
 have t1:(b != b)=false:=by simp
 by_cases h:a<b
 ·have e:ew a b = -1:=by simp [ew,h]
  have HE:=Fx e
  clear e
  go_enter func229,ntmps229
  go_wp2
  go_ret
  exact⟨by rw[HE.out];rfl,rfl⟩
 ·by_cases h2:b<a
  ·have e:ew a b=1:=by simp [ew,h,h2]
   have HE:=Fx e
   clear e
   go_enter func229,ntmps229
   go_wp2
   go_ret
   exact⟨by rw[HE.out];rfl,rfl⟩
  ·have e:ew a b=0:=by simp [ew,h,h2]
   have HE:=Fx e
   clear e
   go_enter func229,ntmps229
   go_wp2
   go_ret
   exact⟨by rw[HE.out];rfl,rfl⟩
theorem uR (a b:Int) (w:World):Calls prog 230 #[.int .i64 a,.int .i64 b] w fun e w'=>e=.returned (.int .i64 (ew a b))/\w=w':=by
 have t0:(a != a)=false:=by simp
 have t1:(b != b)=false:=by simp
 by_cases h:a<b
 ·have e:ew a b = -1:=by simp [ew,h]
  have HE:=Fx e
  clear e
  go_enter func230,ntmps230
  go_wp2
  go_ret
  exact⟨by rw[HE.out];rfl,rfl⟩
 ·by_cases h2:b<a
  ·have e:ew a b=1:=by simp [ew,h,h2]
   have HE:=Fx e
   clear e
   go_enter func230,ntmps230
   go_wp2
   go_ret
   exact⟨by rw[HE.out];rfl,rfl⟩
  ·have e:ew a b=0:=by simp [ew,h,h2]
   have HE:=Fx e
   clear e
   go_enter func230,ntmps230
   go_wp2
   go_ret
   exact⟨by rw[HE.out];rfl,rfl⟩
theorem D4 (x y z:Int) (B:Nat) (w:World) (h0:w.cell? ⟨B,0,none⟩=some (.int .i64 x)) (h1:w.cell? ⟨B,1,none⟩=some (.int .i64 y)) (h2:w.cell? ⟨B,2,none⟩=some (.int .i64 z)) :
 Calls prog 228 #[.slice (some ⟨B,0,none⟩) 3 3] w fun e w'=>e=.returned (.int .i64 (Cj x y z))/\w=w':=by
 by_cases hx:x=0
 ·subst hx
  by_cases hy:y=0
  ·subst hy
   by_cases hz:z=0
   ·subst hz
    go_enter func228,ntmps228
    go_wp2
    go_rounds 5
    go_ret
    exact⟨rfl,rfl⟩
   ·have hz':(z != 0)=true:=by simpa using hz
    go_enter func228,ntmps228
    go_wp2
    go_rounds 5
    go_ret
    exact⟨rfl,rfl⟩
  ·have hy':(y != 0)=true:=by simpa using hy
   go_enter func228,ntmps228
   go_wp2
   go_rounds 5
   go_ret
   exact⟨by simp [Cj,hy],rfl⟩
 ·have hx':(x != 0)=true:=by simpa using hx
  go_enter func228,ntmps228
  go_wp2
  go_rounds 5
  go_ret
  exact⟨by simp [Cj,hx],rfl⟩
def jH (k1 n1:Int) (t1:ByteArray) (k2 n2:Int) (t2:ByteArray):Int:=Cj (ew k1 k2) (ew n1 n2) (Lib.compareBytes t1.data.toList t2.data.toList)
theorem nt (t:ByteArray) (k:Nat) (h:k<t.size):bN (t.data.toList.take (k+1))=bN (t.data.toList.take k)++bA (((t[k]'h).toNat:Int)):=by
 have h':k<t.data.toList.length:=h
 rw[List.take_succ_eq_append_getElem h',bN,List.flatMap_append]
 simp only[List.flatMap_cons,List.flatMap_nil,List.append_nil,bN]
 rfl
theorem xK (n:Int) (t:ByteArray) (w:World) (h:ax 2 n t.data.toList=true) :
 Calls prog 150 #[.agg #[.int .i64 2,.int .i64 n,.string t]] w fun e w'=>e=.returned (.string ⟨(aW 2 n t.data.toList).toArray⟩)/\Below w.heap.size w w':=by
 have hs64:t.size<=64:=by
  have hl:t.data.toList.length=t.size:=rfl
  simp only[ax,hl,decide_eq_true_eq] at h
  omega
 have HE:Hid (aW 2 n t.data.toList=34::(bN t.data.toList++[34])):=Fx (by rw[aW,h];rfl)
 have hB:wS (w.heap.size+1+1) (w.heap.size+1+1) [] (((w.alloc (.cells #[.int .i64 2,.int .i64 n,.string t] 111)).alloc (.cells #[.int .i64 2,.int .i64 n,.string t] 111)).alloc (.cells #[.pointer none,.slice none 0 0] 156)):=by
  have:=Lib.fresh_isBuilder 156 5 ((w.alloc (.cells #[.int .i64 2,.int .i64 n,.string t] 111)).alloc (.cells #[.int .i64 2,.int .i64 n,.string t] 111))
  simp only[World.size_alloc] at this
  exact this
 have HB:=Fx hB
 have hb0:Below w.heap.size w (((w.alloc (.cells #[.int .i64 2,.int .i64 n,.string t] 111)).alloc (.cells #[.int .i64 2,.int .i64 n,.string t] 111)).alloc (.cells #[.pointer none,.slice none 0 0] 156)):=ae (ae (ae Fy _) _) _
 have HB0:=Fx hb0
 clear hB hb0
 go_enter func150,ntmps150
 go_wp2_with fail
 refine (eV 2 n t _).mono ?_
 rintro e w1 ⟨rfl,rfl⟩
 rw[h]
 go_wp2_with fail
 refine (ez (w.heap.size+1+1) (w.heap.size+1+1) [] 34 _ HB.out (by simp) (by simp) (by omega) (by omega)).mono ?_
 rintro e w2 ⟨rfl,hw2,hb2⟩
 have hc:=hb2.cell (p:=⟨w.heap.size,2,none⟩) (by simp;omega)
 simp [go_sem] at hc
 have hz:=hb2.size
 simp at hz
 have HW2:=Fx hw2
 have HB2:=Fx hb2
 clear hw2 hb2
 have HH:=Fx h
 clear h
 go_wp2_with fail
 go_loopw [18] (fun ix wr=>∃ (k:Nat),k<=t.size/\ix=.int .i64 k/\nI (w.heap.size+1+1) (w.heap.size+1+1) (.pointer (some ⟨w.heap.size+1+1,0,none⟩)) (34::bN (t.data.toList.take k)) wr/\Below (w.heap.size+1+1) w2 wr) (fun ix _=>t.size - (intOf ix).toNat)
 case atStart =>
  exact⟨0,Fz,rfl,by simpa [bN] using HW2.out,Below.refl _ _⟩
 case round =>
  obtain⟨k,hk,rfl,hbld,hbel⟩:=hrel
  have hc':=(hbel.cell (p:=⟨w.heap.size,2,none⟩) (by simp;omega)).trans hc
  have hzr:=hbel.size
  have HBL:=Fx hbld
  clear hbld
  have hsl:=lq (t.data.toList.take k)
  have hsl2:(t.data.toList.take k).length<=k:=by rw[List.length_take];exact Nat.min_le_left _ _
  by_cases hlt:k<t.size
  ·have HT:=Fx (nt t k hlt)
   have hbd:((t[k]'hlt).toNat:Int)<=255:=by have:=(t[k]'hlt).toNat_lt;omega
   have HBD:=Fx hbd
   clear hbd
   go_wp2_with fail
   refine (rg (w.heap.size+1+1) (w.heap.size+1+1) _ _ wr (.inr HBL.out) (by simp;omega) (by omega) (by omega) HBD.out).mono ?_
   rintro e w3 ⟨rfl,hw3,hb3⟩
   have HW3:=Fx hw3
   clear hw3
   go_wp2_with fail
   exact⟨⟨k+1,by omega,congrArg (Value.int .i64) (by omega),by rw[HT.out];exact HW3.out,hbel.trans hb3⟩,by simp only[intOf];omega⟩
  ·have hke:k=t.size:=by omega
   subst hke
   have htk:t.data.toList.take t.size=t.data.toList:=List.take_of_length_le FA
   rw[htk] at hsl
   have HT:=Fx htk
   clear htk hsl2
   go_wp2_with fail
   refine (ez (w.heap.size+1+1) (w.heap.size+1+1) _ 34 wr (.inr HBL.out) (by rw[HT.out];simp only[List.length_cons];have:t.data.toList.length=t.size:=rfl;omega) (by omega) (by omega) (by omega)).mono ?_
   rintro e w3 ⟨rfl,hw3,hb3⟩
   have HW3:=Fx hw3
   have hb3s:=hb3.size
   clear hw3
   go_wp2_with fail
   refine (Tryz.Builder_String_any (w.heap.size+1+1) (w.heap.size+1+1) _ w3 (.inr HW3.out) (by omega)).mono ?_
   rintro e w4 ⟨rfl,hb4⟩
   go_wp2_with fail
   go_ret
   refine⟨?_,HB0.out.trans ((((HB2.out.trans hbel).trans hb3).trans hb4).mono (by omega))⟩
   rw[HE.out,HT.out]
   rfl
theorem rF (k n:Int) (t:ByteArray) (w:World) (h0 : -9223372036854775808<=n) (h1:n<=9223372036854775807) (hg:bY w) :
 Calls prog 150 #[.agg #[.int .i64 k,.int .i64 n,.string t]] w fun e w'=>e=.returned (.string ⟨(aW k n t.data.toList).toArray⟩)/\Below w.heap.size w w':=by
 cases h:ax k n t.data.toList with
 | false=>exact zW k n t w h
 | true =>
   have hk:k=1∨k=2:=by
    simp only[ax,decide_eq_true_eq] at h
    omega
   rcases hk with rfl | rfl
   ·exact A1 n t w h h0 h1 hg
   ·exact xK n t w h
theorem gH (k n:Int) (t:ByteArray) (w:World) :
 Calls prog 122 #[.agg #[.int .i64 k,.int .i64 n,.string t]] w fun e w'=>e=.returned (.bool (ax k n t.data.toList))/\Below w.heap.size w w':=by
 have hl:t.data.toList.length=t.size:=rfl
 by_cases k1:k=1
 ·subst k1
  have HE:Hid (ax 1 n t.data.toList=decide (t.size=0)):=Fx (by simp only[ax,<-hl,List.length_eq_zero_iff];simp)
  by_cases h0:t.size=0
  ·have q:((t.size:Int) == 0)=true:=by simp [h0]
   have HE2:Hid (ax 1 n t.data.toList=true):=Fx (by rw[HE.out];simp [h0])
   clear h0 hl
   go_enter func122,ntmps122
   go_wp2
   go_ret
   exact⟨by rw[HE2.out];rfl,ae Fy _⟩
  ·have q:((t.size:Int) == 0)=false:=beq_eq_false_iff_ne.2 (by omega)
   have q':(t.size == 0)=false:=beq_eq_false_iff_ne.2 (by omega)
   have HE2:Hid (ax 1 n t.data.toList=false):=Fx (by rw[HE.out];simp [h0])
   clear h0 hl
   go_enter func122,ntmps122
   go_wp2
   go_ret
   exact⟨by rw[HE2.out];rfl,ae Fy _⟩
 ·have q1:(k == 1)=false:=by simpa using k1
  have HE:Hid (ax k n t.data.toList=decide (k=2/\n=0/\t.size<=64)):=Fx (by simp only[ax,hl,k1];simp)
  clear hl
  by_cases k2:k=2
  ·have q2:(k == 2)=true:=by simpa using k2
   by_cases n0:n=0
   ·have q3:(n == 0)=true:=by simpa using n0
    by_cases h64:t.size<=64
    ·have HE2:Hid (ax k n t.data.toList=true):=Fx (by rw[HE.out];simp [k2,n0,h64])
     have h64':decide ((t.size:Int)<=64)=true:=by simp;omega
     clear k1 k2 n0
     go_enter func122,ntmps122
     go_wp2
     go_ret
     exact⟨by rw[HE2.out];rfl,ae Fy _⟩
    ·have HE2:Hid (ax k n t.data.toList=false):=Fx (by rw[HE.out];simp [k2,n0];omega)
     have h64':decide ((t.size:Int)<=64)=false:=by simp;omega
     clear k1 k2 n0 h64
     go_enter func122,ntmps122
     go_wp2
     go_ret
     exact⟨by rw[HE2.out];rfl,ae Fy _⟩
   ·have q3:(n == 0)=false:=by simpa using n0
    have HE2:Hid (ax k n t.data.toList=false):=Fx (by rw[HE.out];simp [n0])
    clear k1 k2 n0
    go_enter func122,ntmps122
    go_wp2
    go_ret
    exact⟨by rw[HE2.out];rfl,ae Fy _⟩
  ·have q2:(k == 2)=false:=by simpa using k2
   have HE2:Hid (ax k n t.data.toList=false):=Fx (by rw[HE.out];simp [k2])
   clear k1 k2
   go_enter func122,ntmps122
   go_wp2
   go_ret
   exact⟨by rw[HE2.out];rfl,ae Fy _⟩
theorem mQ {P:Program} {w:World} {g e src dst n cap:Nat} {l:List UInt8} (hs:P.underlying src=some (.slice e)) (he:P.underlying e=some (.int .u8)) (hd:P.underlying dst=some .string)
 (hl:(Lib.byteCells l).length=n) (h:∀ j v,(Lib.byteCells l)[j]? = some v->w.cell? ((⟨g,0,none⟩:Addr).add j)=some v):(convert src dst (.slice (some ⟨g,0,none⟩) n cap)).run P w=.ok (.string ⟨l.toArray⟩) w:=by
 rw[run_convert_bytes_string w src dst e _ _ _ hs he hd]
 have hc:=run_loadCells_list (P:=P) w ⟨g,0,none⟩ (Lib.byteCells l) h
 rw[hl] at hc
 have e:Lib.byteCells l=(l.map fun b=>(b.toNat:Int)).map (Value.int .u8):=by simp [Lib.byteCells]
 rw[e] at hc
 rw[run_bytesToString w ⟨g,0,none⟩ n cap _ hc]
 congr 2
 have:∀ (l:List UInt8) (a:ByteArray),(l.map fun b=>(b.toNat:Int)).foldl (fun r (n:Int)=>r.push (UInt8.ofNat n.toNat)) a=⟨(a.data.toList++l).toArray⟩:=by
  intro l
  induction l with
  | nil=>intro a;simp
  | cons x l ih =>
    intro a
    simp only[List.map_cons,List.foldl_cons]
    rw[ih]
    simp [ByteArray.push]
 rw[this]
 simp
theorem DF {w:World} {g cap:Nat} {c:Int} (h0:0<=c) (h1:c<=255) (h:w.cell? ⟨g,0,none⟩=some (.int .u8 c)) :
 (convert 154 9 (.slice (some ⟨g,0,none⟩) 1 cap)).run prog w=.ok (.string ⟨#[UInt8.ofNat c.toNat]⟩) w:=by
 refine mQ (l:=[UInt8.ofNat c.toNat]) underlying154 underlying5 underlying9 rfl ?_
 intro j v hj
 match j with
 | 0 =>
   simp only[Lib.byteCells,List.map_cons,List.map_nil,List.getElem?_cons_zero,Option.some.injEq] at hj
   rw[<-hj,<-xd c h0 h1]
   exact h
 | j+1=>simp [Lib.byteCells] at hj
theorem Es {w:World} {g cap:Nat} {a b:UInt8} (h:w.cell? ⟨g,0,none⟩=some (.int .u8 a.toNat)) (h2:w.cell? ⟨g,1,none⟩=some (.int .u8 b.toNat)) :
 (convert 154 9 (.slice (some ⟨g,0,none⟩) 2 cap)).run prog w=.ok (.string ⟨#[a,b]⟩) w:=by
 refine mQ (l:=[a,b]) underlying154 underlying5 underlying9 rfl ?_
 intro j v hj
 match j with
 | 0=>simp only[Lib.byteCells,List.map_cons,List.map_nil,List.getElem?_cons_zero,Option.some.injEq] at hj;rw[<-hj];exact h
 | 1=>simp only[Lib.byteCells,List.map_cons,List.map_nil,List.getElem?_cons_succ,List.getElem?_cons_zero,Option.some.injEq] at hj;rw[<-hj];exact h2
 | j+2=>simp [Lib.byteCells] at hj
theorem tN (c:Int) (w:World) (h0:0<=c) (h1:c<=255) :
 Calls prog 159 #[.int .u8 c] w fun e w'=>e=.returned (.string ⟨(bA c).toArray⟩)/\Below w.heap.size w w':=by
 by_cases c1:c=34
 ·subst c1
  go_enter func159,ntmps159
  go_wp2_with fail
  go_ret
  exact⟨rfl,Below.refl _ _⟩
 by_cases c2:c=92
 ·subst c2
  go_enter func159,ntmps159
  go_wp2_with fail
  go_ret
  exact⟨rfl,Below.refl _ _⟩
 by_cases c3:c=10
 ·subst c3
  go_enter func159,ntmps159
  go_wp2_with fail
  go_ret
  exact⟨rfl,Below.refl _ _⟩
 by_cases c4:c=9
 ·subst c4
  go_enter func159,ntmps159
  go_wp2_with fail
  go_ret
  exact⟨rfl,Below.refl _ _⟩
 have q1:(c == 34)=false:=by simpa using c1
 have q2:(c == 92)=false:=by simpa using c2
 have q3:(c == 10)=false:=by simpa using c3
 have q4:(c == 9)=false:=by simpa using c4
 by_cases c5:32<=c/\c<=126
 ·have HE:Hid (bA c=[UInt8.ofNat c.toNat]):=Fx (by unfold bA;rw[if_neg (by omega),if_neg c3,if_neg c4,if_pos c5])
  obtain⟨c6,c7⟩:=c5
  clear c1 c2 c3 c4
  have hc:(w.alloc (.cells #[.int .u8 c] 5)).cell? ⟨w.heap.size,0,none⟩=some (.int .u8 c):=by simp
  have hcv:=DF (cap:=1) h0 h1 hc
  have HB0:=Fx (show Below w.heap.size w (w.alloc (.cells #[.int .u8 c] 5)) from ae Fy _)
  go_enter func159,ntmps159
  go_wp2_with fail
  go_ret
  exact⟨by rw[HE.out];rfl,HB0.out⟩
 ·have HE:Hid (bA c=[92,120,gt (c / 16),gt (c % 16)]):=Fx (by unfold bA;rw[if_neg (by omega),if_neg c3,if_neg c4,if_neg c5])
  have c6:c<32∨126<c:=by omega
  have g1:=mL (c / 16) (by omega) (by omega)
  have g2:=mL (c % 16) (by omega) (by omega)
  have hc0:((w.alloc (.cells #[.int .u8 ((gt (c / 16)).toNat:Int),.int .u8 ((gt (c % 16)).toNat:Int)] 5)).drew).cell? ⟨w.heap.size,0,none⟩=some (.int .u8 ((gt (c / 16)).toNat:Int)):=by simp
  have hc1:((w.alloc (.cells #[.int .u8 ((gt (c / 16)).toNat:Int),.int .u8 ((gt (c % 16)).toNat:Int)] 5)).drew).cell? ⟨w.heap.size,1,none⟩=some (.int .u8 ((gt (c % 16)).toNat:Int)):=by simp
  have hcv:=Es (cap:=2) hc0 hc1
  have HB0:=Fx (show Below w.heap.size w ((w.alloc (.cells #[.int .u8 ((gt (c / 16)).toNat:Int),.int .u8 ((gt (c % 16)).toNat:Int)] 5)).drew) from ay (ae Fy _))
  clear c1 c2 c3 c4 c5 hc0 hc1
  rcases c6 with c6 | c6
  all_goals
   go_enter func159,ntmps159
   go_wp2_with fail
   go_region
   all_goals go_wp2_with fail
   all_goals go_ret
   all_goals exact⟨by rw[HE.out];rfl,HB0.out⟩
theorem Bl {n:Nat} (h:10<=n):Lib.decDigits n=Lib.decDigits (n / 10)++[UInt8.ofNat (48+n % 10)]:=by
 conv=>lhs;rw[Lib.decDigits,dif_neg (by omega)]
theorem AH {n:Nat} (h:n<10):Lib.decDigits n=[UInt8.ofNat (48+n % 10)]:=by
 rw[Lib.decDigits,dif_pos h,Nat.mod_eq_of_lt h]
theorem nn (u:Nat) (w:World) (hu:u<=18446744073709551615) :
 Calls prog 211 #[.int .u64 u] w fun e w'=>e=.returned (.string ⟨(Lib.decDigits u).toArray⟩)/\Below w.heap.size w w':=by
 go_enter func211,ntmps211
 go_wp2_with fail
 go_loopw [0,3] (fun m s wr=>∃ (n:Nat) (l:List UInt8),m=.int .u64 n/\s=.string ⟨l.toArray⟩/\n<=18446744073709551615/\Below w.heap.size w wr/\Lib.decDigits u=Lib.decDigits n++l) (fun m _ _=>(intOf m).toNat)
 case atStart=>exact⟨u,[],rfl,rfl,hu,Below.refl _ _,by simp⟩
 case round =>
  obtain⟨n,l,rfl,rfl,hn,hbel,hd⟩:=hrel
  have hc:(wr.alloc (.cells #[.int .u8 (48+(n:Int) % 10)] 5)).cell? ⟨wr.heap.size,0,none⟩=some (.int .u8 (48+(n:Int) % 10)):=by simp
  have hcv:=DF (cap:=1) (c:=48+(n:Int) % 10) (by omega) (by omega) hc
  have hsz:=hbel.size
  have hll:1+l.length<=9223372036854775807:=by
   have h1:=congrArg List.length hd
   rw[List.length_append,Lib.decDigits_length] at h1
   have h2:=Lib.nDigits_le20 u (by omega)
   omega
  have hcc:(ByteArray.mk #[48+UInt8.ofNat (n % 10)]++ByteArray.mk l.toArray)=⟨(UInt8.ofNat (48+n % 10)::l).toArray⟩:=by
   apply ByteArray.ext
   simp
  have HCC:=Fx hcc
  clear hcc
  have HB:=Fx (show Below w.heap.size w (wr.alloc (.cells #[.int .u8 (48+(n:Int) % 10)] 5)) from ae hbel _)
  have HD:=Fx hd
  clear hbel hd hc
  by_cases h10:n<10
  ·have hz:((n:Int) / 10 == 0)=true:=by simp;omega
   have HL:=Fx (AH h10)
   go_wp2_with fail
   go_ret
   have hE:=HD.out
   rw[HL.out] at hE
   exact⟨by rw[HCC.out,hE];rfl,HB.out⟩
  ·have hz:((n:Int) / 10 == 0)=false:=beq_eq_false_iff_ne.2 (by omega)
   have HL:=Fx (Bl (show 10<=n by omega))
   go_wp2_with fail
   go_round
   case rel=>exact⟨n / 10,UInt8.ofNat (48+n % 10)::l,by go_num,by rw[HCC.out],by omega,HB.out,by rw[HD.out,HL.out];simp⟩
   case measure=>simp [intOf];omega
theorem wj (n:Int) (w:World) (h0 : -9223372036854775808<=n) (h1:n<=9223372036854775807) :
 Calls prog 158 #[.int .i64 n] w fun e w'=>e=.returned (.string ⟨(Lib.itoa n).toArray⟩)/\Below w.heap.size w w':=by
 by_cases hn:n<0
 ·obtain⟨u,rfl⟩:∃ u:Nat,n = -(u:Int):=⟨n.natAbs,by omega⟩
  have HE:Hid (Lib.itoa (-(u:Int))=45::Lib.decDigits u):=Fx (Lib.itoa_neg u (by omega))
  have hd:=nn u w (by omega)
  have HD:=Fx hd
  clear hd
  have hl:=Lib.decDigits_length u
  have hl2:=Lib.nDigits_le20 u (by omega)
  have hll:1+(Lib.decDigits u).length<=9223372036854775807:=by omega
  have h2:IntKind.u64.wrap (-IntKind.u64.wrap (-(u:Int)))=u:=by
   unfold IntKind.wrap
   simp [IntKind.signed,IntKind.bits]
   omega
  go_enter func158,ntmps158
  go_wp2_with fail
  refine HD.out.mono ?_
  rintro e w1 ⟨rfl,hb1⟩
  have HB1:=Fx hb1
  clear hb1
  go_wp2_with fail
  go_ret
  refine⟨?_,HB1.out⟩
  rw[HE.out]
  have:(ByteArray.mk #[45]++ByteArray.mk (Lib.decDigits u).toArray)=⟨(45::Lib.decDigits u).toArray⟩:=by
   apply ByteArray.ext;simp
  rw[<-this];rfl
 ·obtain⟨u,rfl⟩:∃ u:Nat,n=u:=⟨n.toNat,by omega⟩
  have HE:Hid (Lib.itoa (u:Int)=Lib.decDigits u):=Fx (Lib.itoa_nonneg u)
  have hd:=nn u w (by omega)
  have HD:=Fx hd
  clear hd
  go_enter func158,ntmps158
  go_wp2_with fail
  refine HD.out.mono ?_
  rintro e w1 ⟨rfl,hb1⟩
  have HB1:=Fx hb1
  clear hb1
  go_wp2_with fail
  go_ret
  exact⟨by rw[HE.out];rfl,HB1.out⟩
theorem qV (k n:Int) (t:ByteArray) (w:World) (h:ax k n t.data.toList=false) :
 Calls prog 77 #[.agg #[.int .i64 k,.int .i64 n,.string t]] w fun e w'=>e=.returned (.string ⟨(aW k n t.data.toList).toArray⟩)/\Below w.heap.size w w':=by
 have HB0:=Fx (show Below w.heap.size w (w.alloc (.cells #[.int .i64 k,.int .i64 n,.string t] 111)) from ae Fy _)
 have hr:=fun W=>gH k n t W
 rw[h] at hr
 have HR:=Fx hr
 have HE:Hid (aW k n t.data.toList=[]):=Fx (by unfold aW;rw[h];rfl)
 clear hr h
 go_enter func77,ntmps77
 go_wp2_with fail
 refine (HR.out _).mono ?_
 rintro e w1 ⟨rfl,hb1⟩
 have HB1:=Fx (HB0.out.trans (hb1.mono (by simp)))
 clear hb1
 go_wp2_with fail
 go_ret
 exact⟨by rw[HE.out];rfl,HB1.out⟩
theorem oS (k n:Int) (t:ByteArray) (w:World) (h:ax k n t.data.toList=true) (h0 : -9223372036854775808<=n) (h1:n<=9223372036854775807) :
 Calls prog 77 #[.agg #[.int .i64 k,.int .i64 n,.string t]] w fun e w'=>e=.returned (.string ⟨(aW k n t.data.toList).toArray⟩)/\Below w.heap.size w w':=by
 have HB0:=Fx (show Below w.heap.size w (w.alloc (.cells #[.int .i64 k,.int .i64 n,.string t] 111)) from ae Fy _)
 have hr:=fun W=>gH k n t W
 rw[h] at hr
 have HR:=Fx hr
 have hE:aW k n t.data.toList=if k=1 then Lib.itoa n else 34::(bN t.data.toList++[34]):=by unfold aW;rw[h];rfl
 have hv:=h
 simp only[ax,decide_eq_true_eq] at hv
 clear hr
 by_cases hk:k=1
 ·rw[if_pos hk] at hE
  have HE:=Fx hE
  have q1:(k == 1)=true:=by simpa using hk
  clear hE h hv hk
  go_enter func77,ntmps77
  go_wp2_with fail
  refine (HR.out _).mono ?_
  rintro e w1 ⟨rfl,hb1⟩
  have a0:=hb1.cell (p:=⟨w.heap.size,0,none⟩) (by simp)
  have a1:=hb1.cell (p:=⟨w.heap.size,1,none⟩) (by simp)
  simp [go_sem] at a0 a1
  have hz:=hb1.size
  simp at hz
  have HB1:=Fx (HB0.out.trans (hb1.mono (by simp)))
  clear hb1
  go_wp2_with fail
  refine (wj n _ h0 h1).mono ?_
  rintro e w2 ⟨rfl,hb2⟩
  have HB2:=Fx (HB1.out.trans (hb2.mono (by omega)))
  clear hb2
  go_wp2_with fail
  go_ret
  exact⟨by rw[HE.out];rfl,HB2.out⟩
 ·rw[if_neg hk] at hE
  have HE:=Fx hE
  have q1:(k == 1)=false:=by simpa using hk
  have hs64:t.size<=64:=by
   have hl:t.data.toList.length=t.size:=rfl
   omega
  clear hE h hv hk
  go_enter func77,ntmps77
  go_wp2_with fail
  refine (HR.out _).mono ?_
  rintro e w1 ⟨rfl,hb1⟩
  have a0:=hb1.cell (p:=⟨w.heap.size,0,none⟩) (by simp)
  have a2:=hb1.cell (p:=⟨w.heap.size,2,none⟩) (by simp)
  simp [go_sem] at a0 a2
  have hz:=hb1.size
  simp at hz
  have HB1:=Fx (HB0.out.trans (hb1.mono (by simp)))
  clear hb1
  go_wp2_with fail
  go_loopw [3,4] (fun s ix wr=>∃ (k:Nat) (l:List UInt8),k<=t.size/\ix=.int .i64 k/\s=.string ⟨l.toArray⟩/\l=34::bN (t.data.toList.take k)/\Below (w.heap.size+1) w1 wr) (fun _ ix _=>t.size - (intOf ix).toNat)
  case atStart=>exact⟨0,[34],Fz,rfl,rfl,by simp [bN],Below.refl _ _⟩
  case round =>
   obtain⟨k,l,hk,rfl,rfl,hl,hbel⟩:=hrel
   have hc':=(hbel.cell (p:=⟨w.heap.size,2,none⟩) (by simp)).trans a2
   have hzr:=hbel.size
   have hsl:=lq (t.data.toList.take k)
   have hsl2:(t.data.toList.take k).length<=k:=by rw[List.length_take];exact Nat.min_le_left _ _
   have hll:l.length<=257:=by rw[hl,List.length_cons];omega
   by_cases hlt:k<t.size
   ·have hT:=nt t k hlt
    have hbd:((t[k]'hlt).toNat:Int)<=255:=by have:=(t[k]'hlt).toNat_lt;omega
    have hB:=fun W=>tN ((t[k]'hlt).toNat:Int) W (by omega) hbd
    have hbl:(bA ((t[k]'hlt).toNat:Int)).length<=4:=by unfold bA;(repeat' split)<;>simp
    generalize hg:bA ((t[k]'hlt).toNat:Int)=sb at *
    have hcc:(ByteArray.mk l.toArray++ByteArray.mk sb.toArray)=⟨(l++sb).toArray⟩:=by apply ByteArray.ext;simp
    have hll2:l.length+sb.length<=9223372036854775807:=by omega
    have HCC:=Fx hcc
    have HT:Hid (l++sb=34::bN (t.data.toList.take (k+1))):=Fx (by rw[hl,hT];try rfl)
    have HBB:=Fx hB
    clear hT hbd hB hbl hg hcc hl hsl hsl2
    go_wp2_with fail
    refine (HBB.out _).mono ?_
    rintro e w3 ⟨rfl,hb3⟩
    have HB3:=Fx (hbel.trans (hb3.mono (by omega)))
    clear hb3
    go_wp2_with fail
    go_round
    case rel=>exact⟨k+1,l++sb,by omega,by go_num,by rw[HCC.out],HT.out,HB3.out⟩
    case measure=>simp [intOf];omega
   ·have hke:k=t.size:=by omega
    subst hke
    have htk:t.data.toList.take t.size=t.data.toList:=List.take_of_length_le FA
    rw[htk] at hl
    have hcc:(ByteArray.mk l.toArray++ByteArray.mk #[34])=⟨(34::(bN t.data.toList++[34])).toArray⟩:=by apply ByteArray.ext;rw[hl];simp
    have HCC:=Fx hcc
    have hll2:l.length+1<=9223372036854775807:=by omega
    have HB3:=Fx hbel
    clear hcc hl hsl hsl2 htk hbel
    go_wp2_with fail
    go_ret
    exact⟨by rw[HE.out,<-HCC.out];rfl,HB1.out.trans (HB3.out.mono (by omega))⟩
theorem sK (k n:Int) (t:ByteArray) (w:World) (h0 : -9223372036854775808<=n) (h1:n<=9223372036854775807) :
 Calls prog 77 #[.agg #[.int .i64 k,.int .i64 n,.string t]] w fun e w'=>e=.returned (.string ⟨(aW k n t.data.toList).toArray⟩)/\Below w.heap.size w w':=by
 cases h:ax k n t.data.toList with
 | false=>exact qV k n t w h
 | true=>exact oS k n t w h h0 h1
