/- value.Show of a text, walked. osierlaw01.awake, walked. osierref01.Byte, Digits, Number, Show, walked. osierref01.Valid and the law ValueValids, walked. osierref01.Digits, Number, walked. osierref01.small, walked. osierref01.unit, walked. osierref01.unit, walked. osierref01.scanText, walked. value.Compare, walked. osierref01.Texts, Compare, walked; the law ValueCompares. -/
import Derived.Test.YtamjadghncnbcaaGreatDoorLbW
import Derived.Test.YtamjadghncnbcaaGreatDoorLaW
import Derived.Test.YtamjadghncnbcaaGreatDoorProg
import Derived.Test.YtamjadghncnbcaaGreatDoorShelf
import Derived.KernelRfl
import Derived.Deep.RegionHeld3
import Derived.Deep.MidRow
import Derived.Lib.ItoaLen
import Derived.Lib.ConvBytes
import Derived.Lib.Bytealg
import Derived.WalkSpells
import Derived.WalkLawsBesides
import Derived.Deep.QuietTactic
import Derived.BigQuiet
import Derived.Lib.Hide
import Derived.StillTailTactics
import Derived.Handy
namespace Go.Proofs.YtamjadghncnbcaaGreatDoor
open Go.RowKit
set_option linter.unusedVariables false
theorem bytes_conv {P:Program} {w:World} {g e src dst n cap:Nat} {l:List UInt8} (hs:P.underlying src=some (.slice e)) (he:P.underlying e=some (.int .u8)) (hd:P.underlying dst=some .string)
 (hl:(Lib.byteCells l).length=n) (h:∀ j v,(Lib.byteCells l)[j]? = some v->w.cell? ((⟨g,0,none⟩:Addr).add j)=some v):(convert src dst (.slice (some ⟨g,0,none⟩) n cap)).run P w=.ok (.string ⟨l.toArray⟩) w:=by
 rw[run_convert_bytes_string w src dst e _ _ _ hs he hd]
 have hc:=run_loadCells_list (P:=P) w ⟨g,0,none⟩ (Lib.byteCells l) h
 rw[hl] at hc
 have e:Lib.byteCells l=(l.map fun b=>(b.toNat:Int)).map (Value.int .u8):=by simp [Lib.byteCells]
 rw[e] at hc
 rw[run_bytesToString w ⟨g,0,none⟩ n cap _ hc]
 congr 2
 have:∀ (l:List UInt8) (a:ByteArray),(l.map fun b=>(b.toNat:Int)).foldl (fun r (n:Int)=>r.push (UInt8.ofNat n.toNat)) a=⟨(a.data.toList++l).toArray⟩:=by
  intro l
  induction l with
  | nil=>intro a;simp
  | cons x l ih =>
    intro a
    simp only[List.map_cons,List.foldl_cons]
    rw[ih]
    simp [ByteArray.push]
 rw[this]
 simp
theorem conv1 {w:World} {g cap:Nat} {c:Int} (h0:0<=c) (h1:c<=255) (h:w.cell? ⟨g,0,none⟩=some (.int .u8 c)) :
 (convert 222 9 (.slice (some ⟨g,0,none⟩) 1 cap)).run Tryz.prog w=.ok (.string ⟨#[UInt8.ofNat c.toNat]⟩) w:=by
 refine bytes_conv (l:=[UInt8.ofNat c.toNat]) Tryz.underlying222 Tryz.underlying5 Tryz.underlying9 rfl ?_
 intro j v hj
 match j with
 | 0 =>
   simp only[Lib.byteCells,List.map_cons,List.map_nil,List.getElem?_cons_zero,Option.some.injEq] at hj
   rw[<-hj,<-byte_of c h0 h1]
   exact h
 | j+1=>simp [Lib.byteCells] at hj
theorem conv2 {w:World} {g cap:Nat} {a b:UInt8} (h:w.cell? ⟨g,0,none⟩=some (.int .u8 a.toNat)) (h2:w.cell? ⟨g,1,none⟩=some (.int .u8 b.toNat)) :
 (convert 222 9 (.slice (some ⟨g,0,none⟩) 2 cap)).run Tryz.prog w=.ok (.string ⟨#[a,b]⟩) w:=by
 refine bytes_conv (l:=[a,b]) Tryz.underlying222 Tryz.underlying5 Tryz.underlying9 rfl ?_
 intro j v hj
 match j with
 | 0=>simp only[Lib.byteCells,List.map_cons,List.map_nil,List.getElem?_cons_zero,Option.some.injEq] at hj;rw[<-hj];exact h
 | 1=>simp only[Lib.byteCells,List.map_cons,List.map_nil,List.getElem?_cons_succ,List.getElem?_cons_zero,Option.some.injEq] at hj;rw[<-hj];exact h2
 | j+2=>simp [Lib.byteCells] at hj
set_option maxHeartbeats 4000000 in
set_option maxRecDepth 100000 in
theorem refByte_any (c:Int) (w:World) (h0:0<=c) (h1:c<=255) :
 Calls Tryz.prog 186 #[.int .u8 c] w fun e w'=>e=.returned (.string ⟨(showB c).toArray⟩)/\Below w.heap.size w w':=by
 by_cases c1:c=34
 ·subst c1
  go_enter Tryz.func186,Tryz.ntmps186
  go_wp2_with fail
  go_ret
  exact⟨rfl,Below.refl _ _⟩
 by_cases c2:c=92
 ·subst c2
  go_enter Tryz.func186,Tryz.ntmps186
  go_wp2_with fail
  go_ret
  exact⟨rfl,Below.refl _ _⟩
 by_cases c3:c=10
 ·subst c3
  go_enter Tryz.func186,Tryz.ntmps186
  go_wp2_with fail
  go_ret
  exact⟨rfl,Below.refl _ _⟩
 by_cases c4:c=9
 ·subst c4
  go_enter Tryz.func186,Tryz.ntmps186
  go_wp2_with fail
  go_ret
  exact⟨rfl,Below.refl _ _⟩
 have q1:(c == 34)=false:=by simpa using c1
 have q2:(c == 92)=false:=by simpa using c2
 have q3:(c == 10)=false:=by simpa using c3
 have q4:(c == 9)=false:=by simpa using c4
 by_cases c5:32<=c/\c<=126
 ·have HE:Hid (showB c=[UInt8.ofNat c.toNat]):=Lib.hid (by unfold showB;rw[if_neg (by omega),if_neg c3,if_neg c4,if_pos c5])
  obtain⟨c6,c7⟩:=c5
  clear c1 c2 c3 c4
  have hc:(w.alloc (.cells #[.int .u8 c] 5)).cell? ⟨w.heap.size,0,none⟩=some (.int .u8 c):=by simp
  have hcv:=conv1 (cap:=1) h0 h1 hc
  have HB0:=Lib.hid (show Below w.heap.size w (w.alloc (.cells #[.int .u8 c] 5)) from balloc (Below.refl _ _) _)
  go_enter Tryz.func186,Tryz.ntmps186
  go_wp2_with fail
  go_ret
  exact⟨by rw[HE.out];rfl,HB0.out⟩
 ·have HE:Hid (showB c=[92,120,hexd (c / 16),hexd (c % 16)]):=Lib.hid (by unfold showB;rw[if_neg (by omega),if_neg c3,if_neg c4,if_neg c5])
  have c6:c<32∨126<c:=by omega
  have g1:=hexd_at (c / 16) (by omega) (by omega)
  have g2:=hexd_at (c % 16) (by omega) (by omega)
  have hc0:((w.alloc (.cells #[.int .u8 ((hexd (c / 16)).toNat:Int),.int .u8 ((hexd (c % 16)).toNat:Int)] 5)).drew).cell? ⟨w.heap.size,0,none⟩=some (.int .u8 ((hexd (c / 16)).toNat:Int)):=by simp
  have hc1:((w.alloc (.cells #[.int .u8 ((hexd (c / 16)).toNat:Int),.int .u8 ((hexd (c % 16)).toNat:Int)] 5)).drew).cell? ⟨w.heap.size,1,none⟩=some (.int .u8 ((hexd (c % 16)).toNat:Int)):=by simp
  have hcv:=conv2 (cap:=2) hc0 hc1
  have HB0:=Lib.hid (show Below w.heap.size w ((w.alloc (.cells #[.int .u8 ((hexd (c / 16)).toNat:Int),.int .u8 ((hexd (c % 16)).toNat:Int)] 5)).drew) from bdrew (balloc (Below.refl _ _) _))
  clear c1 c2 c3 c4 c5 hc0 hc1
  rcases c6 with c6 | c6
  all_goals
   go_enter Tryz.func186,Tryz.ntmps186
   go_wp2_with fail
   go_region
   all_goals go_wp2_with fail
   all_goals go_ret
   all_goals exact⟨by rw[HE.out];rfl,HB0.out⟩
def low (c:UInt8):UInt8:=if 65<=c.toNat/\c.toNat<=70 then c+32 else c
def lows (l:List UInt8) (k:Nat):List UInt8:=(l.take k).map low++l.drop k
def SmR (w:World) (g:Nat) (l:List UInt8):Prop :=
 ∃ cs:Array Value,w.heap[g]? = some (.cells cs 5 (cs.size,cs.size+1))/\4<=cs.size/\∀ j,j<4->cs[j]? = some (.int .u8 ((l.getD j 0).toNat:Int))
theorem SmR.cell {w:World} {g:Nat} {l:List UInt8} (h:SmR w g l) {j:Nat} (hj:j<4):w.cell? ⟨g,j,none⟩=some (.int .u8 ((l.getD j 0).toNat:Int)):=by
 obtain⟨cs,h1,h2,h3⟩:=h
 rw[cell_of_row w g j cs _ _ h1]
 exact h3 j hj
theorem SmR.frozen {w:World} {g:Nat} {l:List UInt8} (h:SmR w g l) {j:Nat} (hj:j<4):w.frozen? ⟨g,j,none⟩=false:=by
 obtain⟨cs,h1,h2,h3⟩:=h
 simp [World.frozen?,h1]
 omega
theorem SmR.set_ {w:World} {g:Nat} {l l':List UInt8} (h:SmR w g l) {j:Nat} {u:Value} (hj:j<4) (hu:u=.int .u8 ((l'.getD j 0).toNat:Int)) (hl:∀ i,i<4->i≠j->l'.getD i 0=l.getD i 0):SmR (w.setCell ⟨g,j,none⟩ u) g l':=by
 obtain⟨cs,h1,h2,h3⟩:=h
 refine⟨cs.setIfInBounds j u,?_,by simpa using h2,fun i hi=>?_⟩
 ·simp [World.setCell,Array.getElem?_modify,h1]
 ·rw[Array.getElem?_setIfInBounds]
  by_cases e:j=i
  ·subst e
   rw[if_pos rfl,if_pos (by omega),hu]
  ·rw[if_neg e,hl i hi (fun k=>e k.symm)]
   exact h3 i hi
theorem SmR.lt {w:World} {g:Nat} {l:List UInt8} (h:SmR w g l):g<w.heap.size:=by
 obtain⟨cs,h1,_⟩:=h
 rcases Nat.lt_or_ge g w.heap.size with hlt | hge
 ·exact hlt
 ·rw[Array.getElem?_eq_none hge] at h1;cases h1
theorem below_bytes (w:World) (e:TypeId) (s:ByteArray):Below w.heap.size w (Lib.bytesWorld w e s) :=
 ⟨rfl,rfl,rfl,by rw[Lib.bytesWorld_size];omega,fun k hk=>Lib.bytesWorld_at_old w e s k hk⟩
theorem lows_get (l:List UInt8) (k j:Nat) (hj:j<l.length):(lows l k).getD j 0=if j<k then low (l.getD j 0) else l.getD j 0:=by
 unfold lows
 simp only[List.getD_eq_getElem?_getD]
 by_cases h:j<k
 ·rw[if_pos h,List.getElem?_append_left (by simp;omega)]
  simp [h,hj]
 ·rw[if_neg h,List.getElem?_append_right (by simp;omega),List.getElem?_drop]
  congr 2
  simp;omega
set_option maxHeartbeats 4000000 in
set_option maxRecDepth 100000 in
theorem small_any (s:ByteArray) (w:World) (hs:s.size=4) :
 Calls Tryz.prog 248 #[.string s] w fun e w'=>e=.returned (.string ⟨(s.data.toList.map low).toArray⟩)/\Below w.heap.size w w':=by
 have hcv:=Lib.run_convert_string_bytes (P:=Tryz.prog) w 9 222 5 s (u:=.string) Tryz.underlying9 Tryz.underlying222 Tryz.underlying5
 have hbe:=below_bytes w 5 s
 have hl4:s.data.toList.length=4:=hs
 have hcs:(Lib.bytesCells w 5 s).size=4+(grownCap w s.size 0 5 - s.size):=by
  have:s.data.size=4:=hs
  simp [Lib.bytesCells,this]
 have hR:SmR (Lib.bytesWorld w 5 s) w.heap.size (lows s.data.toList 0):=by
  refine⟨_,Lib.bytesWorld_at_new w 5 s,by omega,fun j hj=>?_⟩
  have h:=Lib.bytesWorld_cell w 5 s j (by omega)
  rw[cell_of_row _ _ j _ _ _ (Lib.bytesWorld_at_new w 5 s)] at h
  rw[h]
  simp [lows]
 have hz:=Lib.bytesWorld_size w 5 s
 rw[hs] at hcv
 generalize Lib.bytesWorld w 5 s=W1 at *
 generalize grownCap w 4 0 5=cap at *
 have HB:=Lib.hid hbe
 have HR:=Lib.hid hR
 have HL:=Lib.hid hl4
 clear hbe hR hl4 hcs
 go_enter Tryz.func248,Tryz.ntmps248
 go_wp2_with fail
 go_loopw [9] (fun ix wr=>∃ k:Nat,k<=4/\ix=.int .i64 k/\Below w.heap.size w wr/\SmR wr w.heap.size (lows s.data.toList k)) (fun ix _=>4 - (intOf ix).toNat)
 case atStart=>exact⟨0,by omega,rfl,HB.out,HR.out⟩
 case round =>
  obtain⟨k,hk,rfl,hbel,hrow⟩:=hrel
  by_cases hlt:k<4
  ·have c0:=hrow.cell hlt
   have f0:=hrow.frozen hlt
   have hg:=lows_get s.data.toList k k (by have:=HL.out;omega)
   rw[if_neg (by omega)] at hg
   rw[hg] at c0
   have hcb:=(s.data.toList.getD k 0).toNat_lt
   by_cases hc:65<=(s.data.toList.getD k 0).toNat/\(s.data.toList.getD k 0).toNat<=70
   ·obtain⟨hc1,hc2⟩:=hc
    have hnx:SmR (wr.setCell ⟨w.heap.size,k,none⟩ (.int .u8 (((s.data.toList.getD k 0).toNat:Int)+32))) w.heap.size (lows s.data.toList (k+1)):=by
     refine hrow.set_ hlt ?_ ?_
     ·rw[lows_get _ _ _ (by have:=HL.out;omega),if_pos (by omega),low,if_pos ⟨hc1,hc2⟩]
      rw[UInt8.toNat_add]
      congr 1
      have:(32:UInt8).toNat=32:=rfl
      omega
     ·intro i hi hik
      rw[lows_get _ _ _ (by have:=HL.out;omega),lows_get _ _ _ (by have:=HL.out;omega)]
      by_cases h:i<k
      ·rw[if_pos (by omega),if_pos h]
      ·rw[if_neg (by omega),if_neg h]
    have HN:=Lib.hid hnx
    have HBL:=Lib.hid (show Below w.heap.size w (wr.setCell ⟨w.heap.size,k,none⟩ (.int .u8 (((s.data.toList.getD k 0).toNat:Int)+32))) from hbel.setCell (by simp) _)
    clear hnx hrow hg hbel
    generalize (s.data.toList.getD k 0).toNat=c at *
    have hc3:(65:Int)<=c:=by omega
    have hc4:(c:Int)<=70:=by omega
    go_wp2_with fail
    go_round
    case rel=>exact⟨k+1,by omega,by go_num,HBL.out,HN.out⟩
    case measure=>simp [intOf];omega
   ·have hnx:SmR wr w.heap.size (lows s.data.toList (k+1)):=by
     obtain⟨cs,h1,h2,h3⟩:=hrow
     refine⟨cs,h1,h2,fun j hj=>?_⟩
     rw[h3 j hj,lows_get _ _ _ (by have:=HL.out;omega),lows_get _ _ _ (by have:=HL.out;omega)]
     by_cases h:j=k
     ·subst h
      rw[if_neg (by omega),if_pos (by omega),low,if_neg hc]
     ·by_cases h:j<k
      ·rw[if_pos h,if_pos (by omega)]
      ·rw[if_neg h,if_neg (by omega)]
    have HN:=Lib.hid hnx
    have HBL:=Lib.hid hbel
    clear hnx hrow hg hbel
    generalize (s.data.toList.getD k 0).toNat=c at *
    have hc':c<65∨70<c:=by omega
    clear hc
    rcases hc' with hc' | hc'
    ·have hc3:(c:Int)<65:=by omega
     go_wp2_with fail
     go_round
     case rel=>exact⟨k+1,by omega,by go_num,HBL.out,HN.out⟩
     case measure=>simp [intOf];omega
    ·have hc3:(70:Int)<c:=by omega
     have hc4:(65:Int)<=c:=by omega
     go_wp2_with fail
     go_round
     case rel=>exact⟨k+1,by omega,by go_num,HBL.out,HN.out⟩
     case measure=>simp [intOf];omega
  ·have hk4:k=4:=by omega
   subst hk4
   have hll:lows s.data.toList 4=s.data.toList.map low:=by
    unfold lows
    rw[List.take_of_length_le (by have:=HL.out;omega),List.drop_of_length_le (by have:=HL.out;omega),List.append_nil]
   have hcv2:=bytes_conv (P:=Tryz.prog) (w:=wr) (g:=w.heap.size) (n:=4) (cap:=cap) (l:=s.data.toList.map low) Tryz.underlying222 Tryz.underlying5 Tryz.underlying9 (by rw[Lib.byteCells_length,List.length_map];exact HL.out) (by
    intro j v hj
    have hjl:j<4:=by
     have:=(List.getElem?_eq_some_iff.1 hj).1
     rw[Lib.byteCells_length,List.length_map] at this
     have:=HL.out
     omega
    have h:=hrow.cell hjl
    rw[hll] at h
    rw[show (⟨w.heap.size,0,none⟩:Addr).add j=⟨w.heap.size,j,none⟩ by rw[Lib.add_plain];simp,h]
    rw[<-hj]
    simp only[Lib.byteCells,List.getElem?_map,List.getD_eq_getElem?_getD]
    cases hq:s.data.toList[j]? with
    | none=>exact absurd (List.getElem?_eq_none_iff.1 hq) (by have:=HL.out;omega)
    | some x=>rfl)
   have HBL:=Lib.hid hbel
   clear hrow hbel
   go_wp2_with fail
   go_ret
   exact⟨rfl,HBL.out⟩
def unitP (l:List UInt8) (c:Int):Prop:=(showB c).length=2/\2<=l.length/\l.take 2=showB c
def unitQ (l:List UInt8) (c:Int):Prop:=4<=l.length/\(l.take 4).map low=[92,120,hexd (c / 16),hexd (c % 16)]/\bt l 1=120
theorem low_hex:∀ b:Fin 256,∀ d:Fin 16,low (UInt8.ofNat b.val)=hexd d.val ↔ hexI (b.val:Int)=d.val:=by decide +kernel
theorem low_hex' (b:UInt8) {d:Int} (h0:0<=d) (h1:d<16):low b=hexd d ↔ hexI (b.toNat:Int)=d:=by
 have h:=low_hex ⟨b.toNat,b.toNat_lt⟩ ⟨d.toNat,by omega⟩
 simp only[UInt8.ofNat_toNat,Int.toNat_of_nonneg h0] at h
 exact h
theorem unit_P {l:List UInt8} {c:Int} (h0:bt l 0=92) (c0:0<=c) (c1:c<=255) (h:unitP l c):scanB l=(c,2):=by
 obtain⟨h1,h2,h3⟩:=h
 match l,h2 with
 | a::b::r,_ =>
   rw[bt0] at h0
   simp only[List.take_succ_cons,List.take_zero] at h3
   unfold scanB
   rw[if_neg (by rw[bt0];omega),if_neg (by simp;omega)]
   simp only[bt1]
   unfold showB at h1 h3
   split at h3
   ·rename_i hc
    simp only[List.cons.injEq,and_true] at h3
    obtain⟨_,rfl⟩:=h3
    have e:((UInt8.ofNat c.toNat).toNat:Int)=c:=by rw[UInt8.toNat_ofNat'];omega
    rw[e,if_pos hc]
   ·split at h3
    ·rename_i hc
     simp only[List.cons.injEq,and_true] at h3
     obtain⟨_,rfl⟩:=h3
     subst hc;rfl
    ·split at h3
     ·rename_i hc
      simp only[List.cons.injEq,and_true] at h3
      obtain⟨_,rfl⟩:=h3
      subst hc;rfl
     ·split at h3
      ·simp at h3
      ·simp at h3
theorem unit_Q {l:List UInt8} {c:Int} (h0:bt l 0=92) (c0:0<=c) (c1:c<=255) (h:unitQ l c):scanB l=(c,4):=by
 obtain⟨h1,h2,h3⟩:=h
 match l,h1 with
 | a::b::x::y::r,_ =>
   rw[bt0] at h0
   rw[bt1] at h3
   simp only[List.take_succ_cons,List.take_zero,List.map_cons,List.map_nil,List.cons.injEq,and_true] at h2
   obtain⟨_,_,hx,hy⟩:=h2
   have hx:=(low_hex' x (by omega) (by omega)).1 hx
   have hy:=(low_hex' y (by omega) (by omega)).1 hy
   unfold scanB
   simp only[bt0,bt1,bt2',bt3',h0,h3,hx,hy]
   rw[if_neg (by simp),if_neg (by simp;omega),if_neg (by simp),if_neg (by simp),if_neg (by simp),if_pos trivial,if_neg (by simp;omega),if_neg (by omega),if_neg (by omega)]
   congr 1
   omega
theorem unit_none {l:List UInt8} (h0:bt l 0=92) (h:∀ c:Int,0<=c->c<256->¬ unitP l c/\¬ unitQ l c):scanB l=(0,0):=by
 have hb1:=bt_bd l 1
 have hb2:=hexI_bd (bt l 2)
 have hb3:=hexI_bd (bt l 3)
 unfold scanB
 rw[if_neg (by omega)]
 split
 ·rfl
 rename_i hl
 match l,hl with
 | [],hl=>simp at hl
 | [_],hl=>simp at hl
 | a::b::r,_ =>
   rw[bt0] at h0
   have ha:a=92:=UInt8.toNat_inj.1 (show a.toNat=92 by omega)
   subst ha
   simp only[bt1] at *
   have hP:∀ c:Int,0<=c->c<256->showB c=[92,b]->False:=fun c c0 c1 hs=>(h c c0 c1).1 ⟨by rw[hs];rfl,by simp,by rw[hs];rfl⟩
   have hbb:∀ n:Nat,(b.toNat:Int)=n->n<256->b=UInt8.ofNat n:=fun n e hn=>UInt8.toNat_inj.1 (by rw[UInt8.toNat_ofNat'];omega)
   split
   ·rename_i hq
    exfalso
    refine hP b.toNat (by omega) (by omega) ?_
    unfold showB
    rw[if_pos hq];simp
   split
   ·rename_i hq
    exfalso
    refine hP 10 (by omega) (by omega) ?_
    rw[hbb 110 hq (by omega)];rfl
   split
   ·rename_i hq
    exfalso
    refine hP 9 (by omega) (by omega) ?_
    rw[hbb 116 hq (by omega)];rfl
   split
   ·rename_i hq
    split
    ·rfl
    rename_i hl
    match r,hl with
    | [],hl=>simp at hl
    | [_],hl=>simp at hl
    | x::y::r,_ =>
      simp only[bt2',bt3'] at *
      split
      ·rfl
      split
      ·rfl
      exfalso
      refine (h (hexI x.toNat * 16+hexI y.toNat) (by omega) (by omega)).2 ⟨by simp,?_,by rw[bt1];exact hq⟩
      simp only[List.take_succ_cons,List.take_zero,List.map_cons,List.map_nil]
      rw[(low_hex' x (d:=(hexI x.toNat * 16+hexI y.toNat) / 16) (by omega) (by omega)).2 (by omega),(low_hex' y (d:=(hexI x.toNat * 16+hexI y.toNat) % 16) (by omega) (by omega)).2 (by omega)]
      rw[hbb 120 hq (by omega)]
      rfl
   ·rfl
theorem beq_lists {a b:ByteArray} {la lb:List UInt8} (ha:a.data.toList=la) (hb:b.data.toList=lb):(a.toList == b.toList)=decide (la=lb):=by
 rw[ByteArray.toList_eq,ByteArray.toList_eq,ha,hb]
 by_cases h:la=lb
 ·subst h;simp
 ·rw[decide_eq_false h];simpa using h
theorem low_x {b:UInt8} (h:low b=120):b=120:=by
 unfold low at h
 split at h
 ·rename_i hc
  have:=congrArg UInt8.toNat h
  rw[UInt8.toNat_add] at this
  have e1:(32:UInt8).toNat=32:=rfl
  have e2:(120:UInt8).toNat=120:=rfl
  omega
 ·exact h
set_option maxHeartbeats 16000000 in
set_option maxRecDepth 100000 in
theorem unit_esc (s:ByteArray) (i:Nat) (w:World) (hi:i<s.size) (hs:s.size<=281474976710656) (h92:bt s.data.toList i=92) :
 Calls Tryz.prog 220 #[.string s,.int .i64 i] w fun e w'=>e=.returned (.tuple #[.int .i64 (scanB (s.data.toList.drop i)).2,.int .u8 (scanB (s.data.toList.drop i)).1])/\Below w.heap.size w w':=by
 have hsl:s.data.toList.length=s.size:=rfl
 have hbt:=bt_of s i hi
 have h0:bt (s.data.toList.drop i) 0=92:=by rw[bt_drop];exact h92
 have hdl:(s.data.toList.drop i).length=s.size - i:=by rw[List.length_drop,hsl]
 rw[h92] at hbt
 have hx2:(s.extract i (i+2)).data.toList=(s.data.toList.drop i).take 2:=by rw[Lib.extract_data];congr 1;omega
 have hx4:(s.extract i (i+4)).data.toList=(s.data.toList.drop i).take 4:=by rw[Lib.extract_data];congr 1;omega
 generalize hLd:s.data.toList.drop i=L at *
 have HLd:=Lib.hid hLd
 have H0:=Lib.hid h0
 have HDL:=Lib.hid hdl
 have HX2:=Lib.hid hx2
 have HX4:=Lib.hid hx4
 have HBD:=Lib.hid (scanB_bd L (by intro h;rw[h] at hdl;simp at hdl;omega))
 clear hsl h0 hdl h92 hx2 hx4 hLd
 go_enter Tryz.func220,Tryz.ntmps220
 go_wp2_with fail
 go_loopw [6] (fun ix wr=>∃ k:Nat,k<=256/\ix=.int .i64 k/\Below w.heap.size w wr/\Hid (∀ c:Int,0<=c->c<k->¬ unitP L c/\¬ unitQ L c)) (fun ix _=>256 - (intOf ix).toNat)
 case atStart=>exact⟨0,by omega,rfl,Below.refl _ _,Lib.hid fun c h0 h1=>absurd h1 (by omega)⟩
 case round =>
  obtain⟨k,hk,rfl,hbel,HN⟩:=hrel
  have HB:=Lib.hid hbel
  have hz:=hbel.size
  clear hbel
  by_cases hlt:k<256
  ·have hby:=fun W=>refByte_any (k:Int) W (by omega) (by omega)
   have hsb:(ByteArray.mk (showB (k:Int)).toArray).data.toList=showB k:=by simp
   have hsz:(ByteArray.mk (showB (k:Int)).toArray).size=(showB (k:Int)).length:=by simp [ByteArray.size]
   generalize (ByteArray.mk (showB (k:Int)).toArray)=sb at *
   have g1:=hexd_at ((k:Int) / 16) (by omega) (by omega)
   have g2:=hexd_at ((k:Int) % 16) (by omega) (by omega)
   have hq2:=beq_lists HX2.out hsb
   have HBY:=Lib.hid hby
   by_cases hP:unitP L k
   ·have hres:=unit_P H0.out (by omega) (by omega) hP
    have HRES:=Lib.hid hres
    obtain⟨p1,p2,p3⟩:=hP
    have q1:((sb.size:Int) == 2)=true:=by rw[hsz,p1];rfl
    have q2:(i:Int)+2<=s.size:=by have:=HDL.out;omega
    have q3:i+2<=s.size:=by omega
    rw[decide_eq_true p3] at hq2
    clear hby hsb hsz hres p1 p2 p3 g1 g2
    go_wp2_with fail
    refine (HBY.out _).mono ?_
    rintro e w1 ⟨rfl,hb1⟩
    have HB1:=Lib.hid (HB.out.trans (hb1.mono hz))
    clear hb1
    go_wp2_with fail
    go_ret2
    exact⟨by rw[HRES.out];rfl,HB1.out⟩
   ·have hPF:((sb.size:Int) == 2)=false∨(((sb.size:Int) == 2)=true/\(s.size:Int)<i+2/\s.size<i+2)∨(((sb.size:Int) == 2)=true/\((i:Int)+2<=s.size/\i+2<=s.size)/\((s.extract i (i+2)).toList == sb.toList)=false):=by
     by_cases p1:sb.size=2
     ·have q1:((sb.size:Int) == 2)=true:=by rw[p1];rfl
      by_cases p2:i+2<=s.size
      ·refine .inr (.inr ⟨q1,⟨by omega,p2⟩,?_⟩)
       rw[hq2]
       exact decide_eq_false fun p3=>hP ⟨by omega,by have:=HDL.out;omega,p3⟩
      ·exact .inr (.inl ⟨q1,by omega,by omega⟩)
     ·exact .inl (beq_eq_false_iff_ne.2 (by omega))
    have HP:=Lib.hid hP
    have hsm:=fun W (h4:i+4<=s.size)=>small_any (s.extract i (i+4)) W (by have:=HX4.out;rw[Lib.size_eq,this,List.length_take,HDL.out];omega)
    rw[HX4.out] at hsm
    have hsd:(ByteArray.mk ((L.take 4).map low).toArray).data.toList=(L.take 4).map low:=by simp
    generalize (ByteArray.mk ((L.take 4).map low).toArray)=sm at *
    have hqx:=beq_lists (b:=ByteArray.mk #[92,120]++ByteArray.mk #[hexd ((k:Int) / 16),hexd ((k:Int) % 16)]) (lb:=[92,120,hexd ((k:Int) / 16),hexd ((k:Int) % 16)]) hsd (by simp)
    have hQF:(unitQ L k/\((i:Int)+4<=s.size/\i+4<=s.size)/\(sm.toList == (ByteArray.mk #[92,120]++ByteArray.mk #[hexd ((k:Int) / 16),hexd ((k:Int) % 16)]).toList)=true/\bt s.data.toList (i+1)=120) ∨
     (¬ unitQ L k/\((s.size:Int)<i+4/\s.size<i+4))∨(¬ unitQ L k/\((i:Int)+4<=s.size/\i+4<=s.size)/\(sm.toList == (ByteArray.mk #[92,120]++ByteArray.mk #[hexd ((k:Int) / 16),hexd ((k:Int) % 16)]).toList)=false):=by
     by_cases hQ:unitQ L k
     ·refine .inl ⟨hQ,?_⟩
      obtain⟨p1,p2,p3⟩:=hQ
      have:=HDL.out
      refine⟨⟨by omega,by omega⟩,by rw[hqx];exact decide_eq_true p2,?_⟩
      rw[<-HLd.out,bt_drop] at p3
      exact p3
     ·refine .inr ?_
      by_cases p1:i+4<=s.size
      ·refine .inr ⟨hQ,⟨by omega,p1⟩,?_⟩
       rw[hqx]
       refine decide_eq_false fun p2=>hQ ⟨by have:=HDL.out;omega,p2,?_⟩
       match L,p2 with
       | [],p2=>simp at p2
       | [_],p2=>simp at p2
       | a::b::r,p2 =>
         rw[bt1]
         simp only[List.take_succ_cons,List.map_cons,List.cons.injEq] at p2
         rw[low_x p2.2.1];rfl
      ·exact .inl ⟨hQ,by omega,by omega⟩
    have HSM:=Lib.hid hsm
    clear hby hsb hsz hq2 hP hsm hsd hqx
    rcases hPF with q1 | ⟨q1,q2,q2'⟩ | ⟨q1,⟨q2,q2'⟩,q3⟩
    all_goals
     go_wp2_with fail
     refine (HBY.out _).mono ?_
     rintro e w1 ⟨rfl,hb1⟩
     have hB1:=HB.out.trans (hb1.mono hz)
     have hz1:=hB1.size
     have HB1:=Lib.hid hB1
     clear hb1 hB1
     have hc0:((w1.alloc (.cells #[.int .u8 ((hexd ((k:Int) / 16)).toNat:Int),.int .u8 ((hexd ((k:Int) % 16)).toNat:Int)] 5)).drew).cell? ⟨w1.heap.size,0,none⟩=some (.int .u8 ((hexd ((k:Int) / 16)).toNat:Int)):=by simp
     have hc1:((w1.alloc (.cells #[.int .u8 ((hexd ((k:Int) / 16)).toNat:Int),.int .u8 ((hexd ((k:Int) % 16)).toNat:Int)] 5)).drew).cell? ⟨w1.heap.size,1,none⟩=some (.int .u8 ((hexd ((k:Int) % 16)).toNat:Int)):=by simp
     have hcv:=conv2 (cap:=2) hc0 hc1
     have HB2:=Lib.hid (show Below w.heap.size w ((w1.alloc (.cells #[.int .u8 ((hexd ((k:Int) / 16)).toNat:Int),.int .u8 ((hexd ((k:Int) % 16)).toNat:Int)] 5)).drew) from bdrew (balloc HB1.out _))
     clear hc0 hc1
     go_wp2_with fail
     go_region
     rcases hQF with ⟨hQ,⟨r1,r1'⟩,r2,r3⟩ | ⟨hQ,r1,r1'⟩ | ⟨hQ,⟨r1,r1'⟩,r2⟩
     ·have HRES:=Lib.hid (unit_Q H0.out (by omega) (by omega) hQ)
      have hb1:=bt_of s (i+1) (by omega)
      rw[r3] at hb1
      clear hQ r3
      go_wp2_with fail
      refine (HSM.out _ r1').mono ?_
      rintro e w3 ⟨rfl,hb3⟩
      have HB3:=Lib.hid (HB2.out.trans (hb3.mono (by simp;omega)))
      clear hb3
      go_wp2_with fail
      go_ret2
      exact⟨by rw[HRES.out];rfl,HB3.out⟩
     ·have HN2:Hid (∀ c:Int,0<=c->c<((k+1:Nat):Int)->¬ unitP L c/\¬ unitQ L c):=Lib.hid (by
       intro c h0 h1
       by_cases e:c=k
       ·subst e;exact⟨HP.out,hQ⟩
       ·exact HN.out c h0 (by omega))
      clear hQ
      go_wp2_with fail
      go_round
      case rel=>exact⟨k+1,by omega,by go_num,HB2.out,HN2⟩
      case measure=>simp [intOf];omega
     ·have HN2:Hid (∀ c:Int,0<=c->c<((k+1:Nat):Int)->¬ unitP L c/\¬ unitQ L c):=Lib.hid (by
       intro c h0 h1
       by_cases e:c=k
       ·subst e;exact⟨HP.out,hQ⟩
       ·exact HN.out c h0 (by omega))
      clear hQ
      go_wp2_with fail
      refine (HSM.out _ r1').mono ?_
      rintro e w3 ⟨rfl,hb3⟩
      have HB3:=Lib.hid (HB2.out.trans (hb3.mono (by simp;omega)))
      clear hb3
      go_wp2_with fail
      go_round
      case rel=>exact⟨k+1,by omega,by go_num,HB3.out,HN2⟩
      case measure=>simp [intOf];omega
  ·have hk256:k=256:=by omega
   subst hk256
   have HRES:=Lib.hid (unit_none H0.out fun c h0 h1=>HN.out c h0 (by omega))
   go_wp2_with fail
   go_ret2
   exact⟨by rw[HRES.out];rfl,HB.out⟩
set_option maxHeartbeats 4000000 in
set_option maxRecDepth 100000 in
theorem unit_any (s:ByteArray) (i:Nat) (w:World) (hi:i<s.size) (hs:s.size<=281474976710656) (hq:bt s.data.toList i≠34) :
 Calls Tryz.prog 220 #[.string s,.int .i64 i] w fun e w'=>e=.returned (.tuple #[.int .i64 (scanB (s.data.toList.drop i)).2,.int .u8 (scanB (s.data.toList.drop i)).1])/\Below w.heap.size w w':=by
 by_cases h92:bt s.data.toList i=92
 ·exact unit_esc s i w hi hs h92
 ·have hbt:=bt_of s i hi
  have hsc:scanB (s.data.toList.drop i)=if bt s.data.toList i<32 then (0,0) else if 126<bt s.data.toList i then (0,0) else (bt s.data.toList i,1):=by
   unfold scanB
   rw[bt_drop,Nat.add_zero,if_pos h92]
  generalize bt s.data.toList i=c at *
  have q0:(c != 92)=true:=by simpa using h92
  have q1:(c != 34)=true:=by simpa using hq
  by_cases h1:c<32
  ·rw[if_pos h1] at hsc
   have HSC:=Lib.hid hsc
   clear hsc h92 hq
   go_enter Tryz.func220,Tryz.ntmps220
   go_wp2_with fail
   go_ret2
   exact⟨by rw[HSC.out];rfl,Below.refl _ _⟩
  ·rw[if_neg h1] at hsc
   have h1':32<=c:=by omega
   by_cases h2:126<c
   ·rw[if_pos h2] at hsc
    have HSC:=Lib.hid hsc
    clear hsc h92 hq h1
    go_enter Tryz.func220,Tryz.ntmps220
    go_wp2_with fail
    go_ret2
    exact⟨by rw[HSC.out];rfl,Below.refl _ _⟩
   ·rw[if_neg h2] at hsc
    have h2':c<=126:=by omega
    have HSC:=Lib.hid hsc
    clear hsc h92 hq h1 h2
    go_enter Tryz.func220,Tryz.ntmps220
    go_wp2_with fail
    go_quiet (fail)
    go_wp2_with fail
    go_ret2
    exact⟨by rw[HSC.out];rfl,bdrewN (Below.refl _ _) _⟩
set_option maxHeartbeats 8000000 in
set_option maxRecDepth 100000 in
theorem refText_any (s:ByteArray) (p:Nat) (w:World) (hi:p<s.size) (hs:s.size<=p+140737488355328) (hs2:s.size<=281474976710656) :
 Calls Tryz.prog 188 #[.string s,.int .i64 p] w fun e w'=>e=.returned (textR (s.data.toList.drop (p+1)) (p+1)).v/\Below w.heap.size w w':=by
 obtain⟨i0,hi0,hz0,hz1,hz2⟩:=info_parts Tryz.infoByte
 have hsl:s.data.toList.length=s.size:=rfl
 have HSL:=Lib.hid hsl
 clear hsl
 generalize hL:s.data.toList=l at *
 have HL:=Lib.hid hL
 clear hL
 go_enter Tryz.func188,Tryz.ntmps188
 go_wp2_with fail
 go_loopw [7,8] (fun v ix wr=>∃ (k:Nat) (acc:List UInt8) (a:Option Addr) (cap:Nat),p+1<=k/\k<=s.size/\ix=.int .i64 k/\v=.slice a acc.length cap/\wr.ownsRow (w.heap.size+1) 5 1 (.slice a acc.length cap) acc.length (Lib.byteCells acc)/\Below w.heap.size w wr/\Blk wr w.heap.size 69 #[.int .i64 0,.int .i64 0,.string ⟨#[]⟩]/\acc.length+p+1<=k/\textIs l (p+1) k acc) (fun _ ix _=>s.size - (intOf ix).toNat)
 case atStart =>
  exact⟨p+1,[],none,0,Nat.le_refl _,hi,by go_num,rfl,World.ownsRow_nil _ _ _ _,balloc (Below.refl _ _) _,Blk.new _ _ _,by simp,textIs_start l (p+1)⟩
 case round =>
  obtain⟨k,acc,a,cap,hik,hk,rfl,rfl,hown,hbel,hblk,hacc,hrel⟩:=hrel
  have HR:=Lib.hid hrel
  have HO:=Lib.hid hown
  clear hrel hown
  have hsz:=hbel.size
  have r0:=hblk.cell 0
  have r1:=hblk.cell 1
  have r2:=hblk.cell 2
  have z0:=hblk.frozen 0
  have z1:=hblk.frozen 1
  have z2:=hblk.frozen 2
  simp at r0 r1 r2
  by_cases hlt:k<s.size
  ·have hbt:=bt_of s k hlt
   rw[HL.out] at hbt
   have hkl:k<l.length:=by have:=HSL.out;omega
   by_cases hq:bt l k=34
   ·have q1:(((s[k]'hlt).toNat:Int) != 34)=false:=by rw[hbt];simp [hq]
    have HBT:=Lib.hid hbt
    clear hbt
    have hge:(k:Int)<s.size:=by omega
    by_cases h64:64<acc.length
    ·have HE:=Lib.hid (textR_long HR.out hkl hq h64)
     clear hq
     go_wp2_with fail
     refine bodyPost_ret (v:=(bad 13).v) (by simp [results,Tryz.results188,go_sem, *];rfl) rfl ⟨by have h:=HE.out;push_cast at h;rw[h],bstore3 hbel _ _ _⟩
    ·have HE:=Lib.hid (textR_good HR.out hik hkl hq (by omega))
     have hcv:=run_conv_own (P:=Tryz.prog) Tryz.underlying222 Tryz.underlying5 Tryz.underlying9 HO.out
     have h64':acc.length<=64:=by omega
     clear hq h64
     go_wp2_with fail
     refine bodyPost_ret (v:=(⟨2,0,acc,k+1,0⟩:Res).v) (by simp [results,Tryz.results188,go_sem, *];rfl) rfl ⟨by have h:=HE.out;push_cast at h;rw[h],bstore3 hbel _ _ _⟩
   ·have q1:(((s[k]'hlt).toNat:Int) != 34)=true:=by rw[hbt];simpa using hq
    have HBT:=Lib.hid hbt
    clear hbt
    have hbd:=scanB_bd (l.drop k) (drop_ne hkl)
    have hdl:(l.drop k).length=s.size - k:=by rw[List.length_drop,HSL.out]
    rw[hdl] at hbd
    have HDL:=Lib.hid hdl
    clear hdl
    have hsc:=unit_any s k wr hlt hs2 (by rw[HL.out];exact hq)
    rw[HL.out] at hsc
    by_cases hn:(scanB (l.drop k)).2=0
    ·have HE:=Lib.hid (textR_bad HR.out hkl hq hn)
     have hn':((scanB (l.drop k)).2 == 0)=true:=by simpa using hn
     have HSC:=Lib.hid hsc
     clear hq hn hsc
     go_wp2_with fail
     refine HSC.out.mono ?_
     rintro e w1 ⟨rfl,hb1⟩
     have hb1':=hbel.trans (hb1.mono hsz)
     have hblk1:=hblk.below hb1 (by have:=hblk.lt;omega)
     have r0:=hblk1.cell 0
     have r1:=hblk1.cell 1
     have r2:=hblk1.cell 2
     have z0:=hblk1.frozen 0
     have z1:=hblk1.frozen 1
     have z2:=hblk1.frozen 2
     simp at r0 r1 r2
     go_wp2_with fail
     refine bodyPost_ret (v:=(bad 11).v) (by simp [results,Tryz.results188,go_sem, *];rfl) rfl ⟨by have h:=HE.out;push_cast at h;rw[h],bstore3 hb1' _ _ _⟩
    ·have hst:=textIs_step HR.out hik hkl hq hn
     have HST:=Lib.hid hst
     have hn':((scanB (l.drop k)).2 == 0)=false:=by simpa using hn
     have HSC:=Lib.hid hsc
     have hn1:1<=(scanB (l.drop k)).2:=by omega
     have hsn:=cells_snoc acc (scanB (l.drop k)).1 hbd.1.1 hbd.1.2
     have HSN:=Lib.hid hsn
     clear hq hn hsc hst hsn
     go_wp2_with fail
     refine HSC.out.mono ?_
     rintro e w1 ⟨rfl,hb1⟩
     have hb1':=hbel.trans (hb1.mono hsz)
     have hblk1:=hblk.below hb1 (by have:=hblk.lt;omega)
     have hown1:=(Mod.ofBelow (F:=fun _=>False) hb1).ownsRow HO.out (fun _ _ f=>f)
     have HO1:=Lib.hid hown1
     have HB1:=Lib.hid hblk1
     have hsz1:=hb1'.size
     clear hown1 hblk1 hblk r0 r1 r2 z0 z1 z2
     go_wp2_with (at_builtin;refine wpList_append_lies _ rfl (.tmp 32) (.tmp 34) 222 rfl (w.heap.size+1) 5 i0 (.int .u8 0) 1 1 Tryz.underlying222 hi0 hz0 hz1 hz2 rfl (by decide) (.slice a acc.length cap) acc.length _ rfl (HO1.out.alloc _) ⟨w1.heap.size,0,none⟩ 1 1 [.int .u8 (scanB (l.drop k)).1] rfl rfl (cell_one_new _ _ _) ?c2 (by decide) ?c3 (by omega) ?c4 (w1.heap.size+1) (by simp) ?_)
     case c2=>intro u hu;simp at hu;subst hu;rfl
     case c3=>unfold maxLen;omega
     case c4=>have:=HB1.out.lt;simp;omega
     intro g cap1 w2 hown2 hgrow2 hat2 hlt2
     have hb2:Below w.heap.size w w2:=(balloc hb1' _).grown hgrow2 (by simp;omega) (fun q hq=>by have:=(HO1.out.lt q hq).1;omega)
     have hblk2:=(HB1.out.alloc (.cells #[.int .u8 (scanB (l.drop k)).1] 5)).grown hgrow2 (fun e=>own_blk_ne HO1.out HB1.out (by decide) e.symm)
     have HO2:=Lib.hid hown2
     have HB2:=Lib.hid hblk2
     clear hown2 hblk2
     go_wp2_with fail
     have hkey:(acc++[UInt8.ofNat (scanB (l.drop k)).1.toNat]).length=acc.length+1:=by simp
     refine⟨⟨k+(scanB (l.drop k)).2.toNat,acc++[UInt8.ofNat (scanB (l.drop k)).1.toNat],some ⟨g,0,none⟩,cap1,by omega,by omega,congrArg (Value.int .i64) (by omega),by rw[hkey],?_,hb2,HB2.out,by rw[hkey];omega,HST.out⟩,?_⟩
     ·rw[hkey,HSN.out];exact HO2.out
     ·simp only[intOf];omega
  ·have hke:k=s.size:=by omega
   subst hke
   have HE:=Lib.hid (textR_end HR.out HSL.out.symm)
   go_wp2_with fail
   refine bodyPost_ret (v:=(bad 11).v) (by simp [results,Tryz.results188,go_sem, *];rfl) rfl ⟨by have h:=HE.out;push_cast at h;rw[h],bstore3 hbel _ _ _⟩
end Go.Proofs.YtamjadghncnbcaaGreatDoor
namespace Go.Proofs.YtamjadghncnbcaaGreatDoor
open Go.RowKit
theorem cmp_step {a b:List UInt8} {k:Nat} (ha:k<a.length) (hb:k<b.length) :
 Lib.compareBytes (a.drop k) (b.drop k)=if bt a k<bt b k then -1 else if bt b k<bt a k then 1 else Lib.compareBytes (a.drop (k+1)) (b.drop (k+1)):=by
 rw[List.drop_eq_getElem_cons ha,List.drop_eq_getElem_cons hb,Lib.compareBytes]
 have ea:bt a k=((a[k]).toNat:Int):=by unfold bt;simp [ha]
 have eb:bt b k=((b[k]).toNat:Int):=by unfold bt;simp [hb]
 rw[ea,eb]
 simp only[UInt8.lt_iff_toNat_lt,Int.ofNat_lt]
theorem cmp_end {a b:List UInt8} {k:Nat} (h:a.length<=k∨b.length<=k) (hk:k<=a.length) (hk2:k<=b.length) :
 Lib.compareBytes (a.drop k) (b.drop k)=if a.length<b.length then -1 else if b.length<a.length then 1 else 0:=by
 cases ha:a.drop k with
 | nil =>
   have la:a.length<=k:=List.drop_eq_nil_iff.1 ha
   cases hb:b.drop k with
   | nil =>
     have lb:b.length<=k:=List.drop_eq_nil_iff.1 hb
     rw[if_neg (by omega),if_neg (by omega)];rfl
   | cons x y =>
     have lb:k<b.length:=by
      rcases Nat.lt_or_ge k b.length with h | h
      ·exact h
      ·rw[List.drop_of_length_le h] at hb;cases hb
     rw[if_pos (by omega)];rfl
 | cons x y =>
   have la:k<a.length:=by
    rcases Nat.lt_or_ge k a.length with h | h
    ·exact h
    ·rw[List.drop_of_length_le h] at ha;cases ha
   rw[List.drop_of_length_le (by omega:b.length<=k)]
   rw[if_neg (by omega),if_pos (by omega)];rfl
set_option maxHeartbeats 4000000 in
theorem texts_any (a b:ByteArray) (w:World) (ha:a.size<=281474976710656) :
 Calls Tryz.prog 160 #[.string a,.string b] w fun e w'=>e=.returned (.int .i64 (Lib.compareBytes a.data.toList b.data.toList))/\Below w.heap.size w w':=by
 have la:a.data.toList.length=a.size:=rfl
 have lb:b.data.toList.length=b.size:=rfl
 go_enter Tryz.func160,Tryz.ntmps160
 go_wp2_with fail
 go_loopw [5] (fun ix wr=>∃ k:Nat,k<=a.size/\k<=b.size/\ix=.int .i64 k/\Below w.heap.size w wr/\Lib.compareBytes a.data.toList b.data.toList=Lib.compareBytes (a.data.toList.drop k) (b.data.toList.drop k)) (fun ix _=>a.size - (intOf ix).toNat)
 case atStart=>exact⟨0,Nat.zero_le _,Nat.zero_le _,rfl,Below.refl _ _,rfl⟩
 case round =>
  obtain⟨k,hka,hkb,rfl,hbel,hcmp⟩:=hrel
  by_cases hl:k<a.size/\k<b.size
  ·obtain⟨hla,hlb⟩:=hl
   have hst:=cmp_step (a:=a.data.toList) (b:=b.data.toList) (by omega:k<a.data.toList.length) (by omega)
   have e1:=bt_of a k hla
   have e2:=bt_of b k hlb
   have HB:=Lib.hid hbel
   generalize bt a.data.toList k=c1 at *
   generalize bt b.data.toList k=c2 at *
   by_cases h1:c1<c2
   ·rw[if_pos h1] at hst
    have HE:=Lib.hid (hcmp.trans hst)
    clear hcmp hst la lb hbel
    go_wp2_with fail
    go_quiet (fail)
    go_wp2_with fail
    go_ret
    exact⟨by rw[HE.out];rfl,by repeat (first | exact HB.out | refine bdrewN ?_ _ | refine bdrew ?_)⟩
   ·rw[if_neg h1] at hst
    by_cases h2:c2<c1
    ·rw[if_pos h2] at hst
     have HE:=Lib.hid (hcmp.trans hst)
     clear hcmp hst la lb hbel
     go_wp2_with fail
     go_quiet (fail)
     go_wp2_with fail
     go_quiet (fail)
     go_wp2_with fail
     go_ret
     exact⟨by rw[HE.out];rfl,by repeat (first | exact HB.out | refine bdrewN ?_ _ | refine bdrew ?_)⟩
    ·rw[if_neg h2] at hst
     have HE:=Lib.hid (hcmp.trans hst)
     clear hcmp hst la lb hbel
     go_wp2_with fail
     go_quiet (fail)
     go_wp2_with fail
     go_quiet (fail)
     go_wp2_with fail
     go_round
     case rel=>exact⟨k+1,by omega,by omega,by go_num,by repeat (first | exact HB.out | refine bdrewN ?_ _ | refine bdrew ?_),HE.out⟩
     case measure=>simp [intOf];omega
  ·have hst:=cmp_end (a:=a.data.toList) (b:=b.data.toList) (k:=k) (by omega) (by omega) (by omega)
   rw[la,lb] at hst
   have HE:=Lib.hid (hcmp.trans hst)
   have HB:=Lib.hid hbel
   clear hcmp hst la lb hbel
   by_cases hla:k<a.size<;>by_cases hlb:k<b.size<;>first | (exfalso;omega) | skip
   all_goals
    by_cases h1:a.size<b.size
    ·have g1:decide ((a.size:Int)<b.size)=true:=by simp;omega
     go_wp2_with fail
     go_ret
     exact⟨by rw[HE.out,if_pos h1];try simp,HB.out⟩
    ·have g1:decide ((a.size:Int)<b.size)=false:=by simp;omega
     by_cases h2:b.size<a.size
     ·have g2:decide ((b.size:Int)<a.size)=true:=by simp;omega
      go_wp2_with fail
      go_ret
      exact⟨by rw[HE.out,if_neg h1,if_pos h2];try simp,HB.out⟩
     ·have g2:decide ((b.size:Int)<a.size)=false:=by simp;omega
      go_wp2_with fail
      go_ret
      exact⟨by rw[HE.out,if_neg h1,if_neg h2];try simp,HB.out⟩
end Go.Proofs.YtamjadghncnbcaaGreatDoor
