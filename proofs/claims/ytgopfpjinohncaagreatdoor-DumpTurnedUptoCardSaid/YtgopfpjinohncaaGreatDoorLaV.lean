/- Worlds that differ in a footprint alone: no program in sight. value: the bytes of a literal: isDigit, hex, scanByte, walked; what they compute. value.scanByte, walked. value.scanText: what it computes; the plain part. value.scanText, walked. value.scanNumber, walked. A token, plainly and as it lies in memory. A struct stored into a block that is known whole, as one step: no program in sight. value -/
import Derived.Test.YtgopfpjinohncaaGreatDoorProg
import Derived.Test.YtgopfpjinohncaaGreatDoorShelfZV
import Derived.WalkKit
import Derived.Deep.Draws
import Derived.WalkSpells
import Derived.WalkLawsBesides
import Derived.Deep.QuietTactic
import Derived.BigQuiet
import Derived.Lib.Hide
import Derived.Handy
import Derived.Deep.Light
import Derived.Deep.AppendLies
import Derived.Lib.UnsafeStr
import Derived.Lib.Strings
import Derived.Deep.LoopGhost
import Derived.WalkSmall
import Derived.Lib.AtoiErrMem
import Derived.Deep.WholeRow
import Derived.Deep.MidRow
namespace Go.Proofs.YtgopfpjinohncaaGreatDoor
open Go.RowKit
structure Mod (F:Nat->Prop) (w w':World):Prop where
 os:w'.os=w.os
 tape:w'.tape=w.tape
 output:w'.output=w.output
 size:w.heap.size<=w'.heap.size
 block:∀ k,k<w.heap.size->¬ F k->w'.heap[k]? = w.heap[k]?
theorem Mod.refl (F:Nat->Prop) (w:World):Mod F w w:=⟨rfl,rfl,rfl,Nat.le_refl _,fun _ _ _=>rfl⟩
theorem Mod.trans {F G:Nat->Prop} {a b c:World} (h:Mod F a b) (k:Mod G b c) (hG:∀ i,i<a.heap.size->G i->F i):Mod F a c :=
 ⟨k.os.trans h.os,k.tape.trans h.tape,k.output.trans h.output,Nat.le_trans h.size k.size,
  fun i hi hn=>(k.block i (Nat.lt_of_lt_of_le hi h.size) (fun g=>hn (hG i hi g))).trans (h.block i hi hn)⟩
theorem Mod.mono {F G:Nat->Prop} {a b:World} (h:Mod F a b) (hG:∀ i,i<a.heap.size->F i->G i):Mod G a b :=
 ⟨h.os,h.tape,h.output,h.size,fun i hi hn=>h.block i hi (fun f=>hn (hG i hi f))⟩
theorem Mod.drew {F:Nat->Prop} {a w:World} (h:Mod F a w):Mod F a w.drew:=⟨h.os,h.tape,h.output,h.size,h.block⟩
theorem Mod.drewN {F:Nat->Prop} {a w:World} (h:Mod F a w) (n:Nat):Mod F a (w.drewN n):=⟨h.os,h.tape,h.output,h.size,h.block⟩
theorem Mod.alloc {F:Nat->Prop} {a w:World} (h:Mod F a w) (o:Obj):Mod F a (w.alloc o) :=
 ⟨h.os,h.tape,h.output,Nat.le_trans h.size (by simp),fun i hi hn=>(Below.heap_alloc w o i (Nat.lt_of_lt_of_le hi h.size)).trans (h.block i hi hn)⟩
theorem Mod.setCell {F:Nat->Prop} {a w:World} (h:Mod F a w) {p:Addr} (hp:p.block<a.heap.size->F p.block) (u:Value):Mod F a (w.setCell p u) :=
 ⟨h.os,h.tape,h.output,Nat.le_trans h.size (by simp [World.setCell]),fun i hi hn =>
  (Below.heap_setCell w p u i (fun e=>hn (by subst e;exact hp hi))).trans (h.block i hi hn)⟩
theorem Mod.grown {F:Nat->Prop} {a w w':World} {row:Option Nat} (h:Mod F a w) (hg:w.grownBy w' row) (hr:∀ k,row=some k->k<a.heap.size->F k):Mod F a w' :=
 ⟨hg.os.trans h.os,hg.tape.trans h.tape,hg.output.trans h.output,Nat.le_trans h.size hg.size,fun i hi hn =>
  (hg.block i (Nat.lt_of_lt_of_le hi h.size) (fun e=>hn (hr i e.symm hi))).trans (h.block i hi hn)⟩
theorem Mod.below {F:Nat->Prop} {B:Nat} {w w':World} (h:Mod F w w') (hB:B<=w.heap.size) (hF:∀ i,F i->B<=i):Below B w w' :=
 ⟨h.os,h.tape,h.output,h.size,fun i hi=>h.block i (by omega) (fun f=>by have:=hF i f;omega)⟩
theorem Mod.ofBelow {F:Nat->Prop} {w w':World} (h:Below w.heap.size w w'):Mod F w w' :=
 ⟨h.os,h.tape,h.output,h.size,fun i hi _=>h.block i hi⟩
theorem Mod.cell {F:Nat->Prop} {w w':World} (h:Mod F w w') {p:Addr} (hp:p.block<w.heap.size) (hn:¬ F p.block):w'.cell? p=w.cell? p :=
 World.cell?_of_block (h.block p.block hp hn)
theorem Mod.frozen {F:Nat->Prop} {w w':World} (h:Mod F w w') {p:Addr} (hp:p.block<w.heap.size) (hn:¬ F p.block):w'.frozen? p=w.frozen? p :=
 World.frozen?_of_block (h.block p.block hp hn)
theorem Mod.ownsRow {F:Nat->Prop} {w w':World} (h:Mod F w w') {base:Nat} {e:TypeId} {size:Nat} {v:Value} {n:Nat} {xs:List Value}
 (ho:w.ownsRow base e size v n xs) (hn:∀ k,v.ownBlock=some k->¬ F k):w'.ownsRow base e size v n xs:=by
 refine⟨ho.1,?_⟩
 rcases ho.2 with h2 | ⟨g,cap,cur,rfl,hb,hg,rest⟩
 ·exact .inl h2
 ·exact .inr ⟨g,cap,cur,rfl,hb,(h.block g (Array.getElem?_eq_some_iff.1 hg).1 (hn g rfl)).trans hg,rest⟩
theorem bdrewN {B:Nat} {a w:World} (h:Below B a w) (n:Nat):Below B a (w.drewN n):=⟨h.os,h.tape,h.output,h.size,h.block⟩
theorem bdrew {B:Nat} {a w:World} (h:Below B a w):Below B a w.drew:=⟨h.os,h.tape,h.output,h.size,h.block⟩
theorem balloc {w w':World} (h:Below w.heap.size w w') (o:Obj):Below w.heap.size w (w'.alloc o):=h.alloc h.size o
theorem bt2 {w W W':World} (h:Below w.heap.size w W) (k:Below W.heap.size W W'):Below w.heap.size w W':=h.trans (k.mono h.size)
def Blk (w:World) (g:Nat) (t:TypeId) (cs:Array Value):Prop:=w.heap[g]? = some (.cells cs t (0,0))
section
variable {w w' : World} {g : Nat} {t : TypeId} {cs : Array Value}
theorem Blk.lt (h:Blk w g t cs):g<w.heap.size:=by
 rcases Nat.lt_or_ge g w.heap.size with hlt | hge
 ·exact hlt
 ·unfold Blk at h;rw[Array.getElem?_eq_none hge] at h;cases h
theorem Blk.cell (h:Blk w g t cs) (i:Nat):w.cell? ⟨g,i,none⟩=cs[i]? := cell_of_row w g i cs t (0,0) h
theorem Blk.frozen (h:Blk w g t cs) (i:Nat):w.frozen? ⟨g,i,none⟩=false:=by
 unfold Blk at h
 simp [World.frozen?,h]
theorem Blk.new (w:World) (t:TypeId) (cs:Array Value):Blk (w.alloc (.cells cs t)) w.heap.size t cs:=heap_alloc_new w _
theorem Blk.drew (h:Blk w g t cs):Blk w.drew g t cs:=h
theorem Blk.drewN (h:Blk w g t cs) (n:Nat):Blk (w.drewN n) g t cs:=h
theorem Blk.alloc (h:Blk w g t cs) (o:Obj):Blk (w.alloc o) g t cs:=(Below.heap_alloc w o g h.lt).trans h
theorem Blk.set_ (h:Blk w g t cs) (i:Nat) (u:Value):Blk (w.setCell ⟨g,i,none⟩ u) g t (cs.setIfInBounds i u):=by
 unfold Blk at h ⊢
 simp [World.setCell,Array.getElem?_modify,h]
theorem Blk.far (h:Blk w g t cs) {p:Addr} (hp:g≠p.block) (u:Value):Blk (w.setCell p u) g t cs:=(Below.heap_setCell w p u g hp).trans h
theorem Blk.below {B:Nat} (h:Blk w g t cs) (hb:Below B w w') (hg:g<B):Blk w' g t cs:=(hb.block g hg).trans h
theorem Blk.mod {F:Nat->Prop} (h:Blk w g t cs) (hb:Mod F w w') (hg:¬ F g):Blk w' g t cs:=(hb.block g h.lt hg).trans h
theorem Blk.grown {row:Option Nat} (h:Blk w g t cs) (hb:w.grownBy w' row) (hg:some g≠row):Blk w' g t cs:=(hb.block g h.lt hg).trans h
theorem Blk.ne_ {g':Nat} {t':TypeId} {cs':Array Value} (h:Blk w g t cs) (h':Blk w g' t' cs') (hne:t≠t'):g≠g':=by
 rintro rfl
 unfold Blk at h h'
 rw[h] at h'
 injection h' with h'
 injection h' with _ ht
 exact hne ht
theorem own_blk_ne {base:Nat} {e:TypeId} {size n:Nat} {v:Value} {xs:List Value} (h:w.ownsRow base e size v n xs) (hg:Blk w g t cs) (hne:e≠t):v.ownBlock≠some g:=by
 rcases h.2 with ⟨rfl,_⟩ | ⟨g',cap,cur,rfl,_,hh,_⟩
 ·simp [Value.ownBlock]
 ·intro he
  have:g'=g:=by simpa [Value.ownBlock] using he
  subst this
  exact Blk.ne_ (t:=e) hh hg hne rfl
theorem own_own_ne {base base':Nat} {e e':TypeId} {size size' n n':Nat} {v v':Value} {xs xs':List Value} (h:w.ownsRow base e size v n xs) (h':w.ownsRow base' e' size' v' n' xs') (hne:e≠e') {k:Nat} (hk:v.ownBlock=some k):v'.ownBlock≠some k:=by
 rcases h.2 with ⟨rfl,_⟩ | ⟨g',cap,cur,rfl,_,hh,_⟩
 ·simp [Value.ownBlock] at hk
 ·simp [Value.ownBlock] at hk
  subst hk
  exact own_blk_ne h' hh (fun e=>hne e.symm)
end
def digB (c:Int):Bool:=decide (48<=c/\c<=57)
set_option maxHeartbeats 400000 in
theorem isDigit_any (c:Int) (w:World):Calls Tryz.prog 293 #[.int .u8 c] w fun e w'=>e=.returned (.bool (digB c))/\w=w':=by
 by_cases h:48<=c<;>by_cases h2:c<=57
 all_goals
  have e:digB c=decide (48<=c/\c<=57):=rfl
  simp only[h,h2] at e
  have HE:=Lib.hid e
  clear e
  go_enter Tryz.func293,Tryz.ntmps293
  go_wp2
  go_ret
  exact⟨by rw[HE.out];rfl,rfl⟩
def hexI (c:Int):Int:=if 48<=c/\c<=57 then c - 48 else if 97<=c/\c<=102 then c - 87 else if 65<=c/\c<=70 then c - 55 else -1
theorem hexI_bd (c:Int) : -1<=hexI c/\hexI c<=15:=by unfold hexI;split<;>(try split)<;>(try split)<;>omega
set_option maxHeartbeats 1000000 in
theorem hex_any (c:Int) (w:World):Calls Tryz.prog 330 #[.int .u8 c] w fun e w'=>e=.returned (.int .i64 (hexI c))/\w=w':=by
 by_cases h1:48<=c/\c<=57
 ·obtain⟨h1,h2⟩:=h1
  have e:hexI c=c - 48:=by unfold hexI;rw[if_pos ⟨h1,h2⟩]
  have HE:=Lib.hid e
  have hd:digB c=true:=by simp [digB,h1,h2]
  clear e
  go_enter Tryz.func330,Tryz.ntmps330
  go_wp2_with (go_at_call 293;refine (isDigit_any _ _).mono ?_;rintro e w' ⟨rfl,rfl⟩)
  go_ret
  exact⟨by rw[HE.out];rfl,rfl⟩
 ·have hd:digB c=false:=by simp only[digB,decide_eq_false_iff_not];exact h1
  by_cases h2:97<=c/\c<=102
  ·have e:hexI c=c - 87:=by unfold hexI;rw[if_neg h1,if_pos h2]
   have HE:=Lib.hid e
   clear e h1
   obtain⟨h2,h3⟩:=h2
   go_enter Tryz.func330,Tryz.ntmps330
   go_wp2_with (go_at_call 293;refine (isDigit_any _ _).mono ?_;rintro e w' ⟨rfl,rfl⟩)
   go_ret
   exact⟨by rw[HE.out];exact congrArg (fun x=>Ending.returned (.int .i64 x)) (by omega),rfl⟩
  ·by_cases h3:65<=c/\c<=70
   ·have e:hexI c=c - 55:=by unfold hexI;rw[if_neg h1,if_neg h2,if_pos h3]
    have HE:=Lib.hid e
    clear e h1 h2
    obtain⟨h3,h4⟩:=h3
    go_enter Tryz.func330,Tryz.ntmps330
    go_wp2_with (go_at_call 293;refine (isDigit_any _ _).mono ?_;rintro e w' ⟨rfl,rfl⟩)
    go_ret
    exact⟨by rw[HE.out];exact congrArg (fun x=>Ending.returned (.int .i64 x)) (by omega),rfl⟩
   ·have e:hexI c = -1:=by unfold hexI;rw[if_neg h1,if_neg h2,if_neg h3]
    have HE:=Lib.hid e
    clear e h1
    by_cases g1:97<=c<;>by_cases g2:c<=102<;>by_cases g3:65<=c<;>by_cases g4:c<=70
    all_goals first
     | (exfalso;first | exact h2 ⟨g1,g2⟩ | exact h3 ⟨g3,g4⟩ | omega)
     | (clear h2 h3
        go_enter Tryz.func330,Tryz.ntmps330
        go_wp2_with (go_at_call 293;refine (isDigit_any _ _).mono ?_;rintro e w' ⟨rfl,rfl⟩)
        go_ret
        exact⟨by rw[HE.out];rfl,rfl⟩)
def bt (l:List UInt8) (k:Nat):Int:=(l.getD k 0).toNat
theorem bt_bd (l:List UInt8) (k:Nat):0<=bt l k/\bt l k<=255:=by
 unfold bt;have:=(l.getD k 0).toNat_lt;omega
theorem bt_of (s:ByteArray) (k:Nat) (h:k<s.size):((s[k]'h).toNat:Int)=bt s.data.toList k:=by
 unfold bt
 have h':k<s.data.size:=h
 have e:s.data.toList.getD k 0=s[k]'h:=by
  rw[List.getD_eq_getElem?_getD,Array.getElem?_toList,Array.getElem?_eq_getElem h']
  rfl
 rw[e]
def scanB (l:List UInt8):Int × Int :=
 if bt l 0≠92 then (if bt l 0<32 then (0,0) else if 126<bt l 0 then (0,0) else (bt l 0,1))
 else if (l.length:Int)<2 then (0,0)
 else if bt l 1=34∨bt l 1=92 then (bt l 1,2)
 else if bt l 1=110 then (10,2)
 else if bt l 1=116 then (9,2)
 else if bt l 1=120 then
  if (l.length:Int)<4 then (0,0)
  else if hexI (bt l 2)<0 then (0,0) else if hexI (bt l 3)<0 then (0,0)
  else (hexI (bt l 2) * 16+hexI (bt l 3),4)
 else (0,0)
theorem or16:∀ h l:Fin 16,bits BinOp.or IntKind.i64 ((h.val:Int) * 16) (l.val:Int)=(h.val:Int) * 16+(l.val:Int):=by decide +kernel
theorem or_hex (h l:Int) (h0:0<=h) (h1:h<=15) (l0:0<=l) (l1:l<=15):bits BinOp.or IntKind.i64 (h * 16) l % 256=h * 16+l:=by
 have e:=or16 ⟨h.toNat,by omega⟩ ⟨l.toNat,by omega⟩
 simp only[Int.toNat_of_nonneg h0,Int.toNat_of_nonneg l0] at e
 rw[e];omega
set_option maxHeartbeats 2000000 in
theorem scanByte_any (s:ByteArray) (w:World) (h0:0<s.size) :
 Calls Tryz.prog 315 #[.string s] w fun e w'=>e=.returned (.tuple #[.int .u8 (scanB s.data.toList).1,.int .i64 (scanB s.data.toList).2])/\Below w.heap.size w w':=by
 have hl:s.data.toList.length=s.size:=rfl
 have e0:=bt_of s 0 h0
 have e1:∀ h:1<s.size,((s[1]'h).toNat:Int)=bt s.data.toList 1:=bt_of s 1
 have e2:∀ h:2<s.size,((s[2]'h).toNat:Int)=bt s.data.toList 2:=bt_of s 2
 have e3:∀ h:3<s.size,((s[3]'h).toNat:Int)=bt s.data.toList 3:=bt_of s 3
 have HL:=Lib.hid hl
 clear hl
 generalize hll:s.data.toList=l at *
 clear hll
 by_cases hx:4<=(s.size:Int)/\bt l 0=92/\bt l 1=120
 ·obtain⟨hx1,hx2,hx3⟩:=hx
  have b2:=hexI_bd (bt l 2)
  have b3:=hexI_bd (bt l 3)
  have hs2:(2:Int)<s.size:=by omega
  have hs3:(3:Int)<s.size:=by omega
  have q1:(bt l 0 != 92)=false:=by simp [hx2]
  have q2:(bt l 1 == 34)=false:=by simp [hx3]
  have q3:(bt l 1 == 92)=false:=by simp [hx3]
  have q4:(bt l 1 == 110)=false:=by simp [hx3]
  have q5:(bt l 1 == 116)=false:=by simp [hx3]
  have q6:(bt l 1 == 120)=true:=by simp [hx3]
  have HX:scanB l=if hexI (bt l 2)<0 then (0,0) else if hexI (bt l 3)<0 then (0,0) else (hexI (bt l 2) * 16+hexI (bt l 3),4):=by
   have:=HL.out
   simp only[scanB,hx2,hx3,this]
   rw[if_neg (by omega),if_neg (by omega),if_neg (by omega),if_neg (by omega),if_neg (by omega),if_pos trivial,if_neg (by omega)]
  have HZ:=Lib.hid HX
  clear HX hx2 hx3
  go_enter Tryz.func315,Tryz.ntmps315
  go_wp2_with fail
  go_quiet ((go_at_call 330;exact Calls.quiet_of_same ((hex_any _ _).mono fun _ _ h=>⟨h.1,h.2.symm⟩)))
  go_wp2_with fail
  all_goals
   go_ret2
   refine⟨congrArg Ending.returned ?_,bdrewN (Below.refl _ _) _⟩
   go_light
   have hz:=HZ.out
   rw[hz]
  ·rw[if_neg (by omega),if_pos (by omega)];rfl
  ·rw[if_neg (by omega),if_neg (by omega)]
   have:=or_hex (hexI (bt l 2)) (hexI (bt l 3)) (by omega) (by omega) (by omega) (by omega)
   simp [this]
  ·rw[if_pos (by omega)];rfl
 ·have HX:=Lib.hid hx
  clear hx
  go_enter Tryz.func315,Tryz.ntmps315
  go_wp2_with fail
  all_goals first
   | (exfalso;go_light;have hx:=HX.out;simp_all;done)
   | (go_ret2;refine⟨congrArg Ending.returned ?_,Below.refl _ _⟩;go_light;have hl:=HL.out;simp only[scanB,hl];simp_all;done)
   | (go_ret2;refine⟨congrArg Ending.returned ?_,Below.refl _ _⟩;go_light;have hl:=HL.out;simp only[scanB,hl];simp_all;omega)
   | (go_ret2;refine⟨congrArg Ending.returned ?_,Below.refl _ _⟩;go_light;have hl:=HL.out;simp only[scanB,hl];simp_all;repeat (split<;>simp_all<;>try omega))
end Go.Proofs.YtgopfpjinohncaaGreatDoor
namespace Go.Proofs.YtgopfpjinohncaaGreatDoor
open Go.RowKit
set_option linter.unusedVariables false
theorem run_conv_own {P:Program} {w:World} {B e src dst:Nat} {v:Value} {n:Nat} {l:List UInt8} (hs:P.underlying src=some (.slice e)) (he:P.underlying e=some (.int .u8)) (hd:P.underlying dst=some .string)
 (h:w.ownsRow B e 1 v n (Lib.byteCells l)):(convert src dst v).run P w=.ok (.string ⟨l.toArray⟩) w:=by
 rcases h.2 with ⟨rfl,h0⟩ | ⟨g,cap,cur,rfl,_⟩
 ·have h1:=h.1
  have:l=[]:=by
   have:=Lib.byteCells_length l
   apply List.eq_nil_of_length_eq_zero
   omega
  subst this
  rw[run_convert_bytes_string w src dst e none 0 0 hs he hd]
  rfl
 ·rw[run_convert_bytes_string w src dst e _ _ _ hs he hd]
  have hl:(Lib.byteCells l).length=n:=by simpa using h.1
  have hc:=run_loadCells_list (P:=P) w ⟨g,0,none⟩ (Lib.byteCells l) (h.cells rfl)
  rw[hl] at hc
  have e:Lib.byteCells l=(l.map fun b=>(b.toNat:Int)).map (Value.int .u8):=by simp [Lib.byteCells]
  rw[e] at hc
  rw[run_bytesToString w ⟨g,0,none⟩ n cap _ hc]
  congr 2
  have:∀ (l:List UInt8) (a:ByteArray),(l.map fun b=>(b.toNat:Int)).foldl (fun r (n:Int)=>r.push (UInt8.ofNat n.toNat)) a=⟨(a.data.toList++l).toArray⟩:=by
   intro l
   induction l with
   | nil=>intro a;simp
   | cons x l ih =>
     intro a
     simp only[List.map_cons,List.foldl_cons]
     rw[ih]
     simp [ByteArray.push]
  rw[this]
  simp
theorem scanB_bd (l:List UInt8) (hl:l≠[]):(0<=(scanB l).1/\(scanB l).1<=255)/\0<=(scanB l).2/\(scanB l).2<=4/\(scanB l).2.toNat<=l.length:=by
 have h0:=bt_bd l 0
 have h1:=bt_bd l 1
 have h2:=hexI_bd (bt l 2)
 have h3:=hexI_bd (bt l 3)
 have hlen:1<=l.length:=List.length_pos_iff.2 hl
 unfold scanB
 repeat' split
 all_goals (simp only[];omega)
def textScan (l:List UInt8):Option (List UInt8 × Nat) :=
 if h:l=[] then none
 else if bt l 0=34 then some ([],0)
 else if hn:(scanB l).2=0 then none
 else match textScan (l.drop (scanB l).2.toNat) with
  | none=>none
  | some (t,n)=>some (UInt8.ofNat (scanB l).1.toNat::t,n+(scanB l).2.toNat)
termination_by l.length
decreasing_by
 have hb:=scanB_bd l h
 have hlen:1<=l.length:=List.length_pos_iff.2 h
 rw[List.length_drop]
 omega
theorem textScan_nil:textScan []=none:=by rw[textScan];simp
theorem textScan_quote {l:List UInt8} (h:l≠[]) (hq:bt l 0=34):textScan l=some ([],0):=by rw[textScan,dif_neg h,if_pos hq]
theorem textScan_bad {l:List UInt8} (h:l≠[]) (hq:bt l 0≠34) (hn:(scanB l).2=0):textScan l=none:=by rw[textScan,dif_neg h,if_neg hq,dif_pos hn]
theorem textScan_step {l:List UInt8} (h:l≠[]) (hq:bt l 0≠34) (hn:(scanB l).2≠0) :
 textScan l=(textScan (l.drop (scanB l).2.toNat)).map fun p=>(UInt8.ofNat (scanB l).1.toNat::p.1,p.2+(scanB l).2.toNat):=by
 conv=>lhs;rw[textScan,dif_neg h,if_neg hq,dif_neg hn]
 cases textScan (l.drop (scanB l).2.toNat)<;>rfl
structure Res where
 k:Int
 n:Int
 t:List UInt8
 stop:Int
 e:Int
def Res.v (r:Res):Value:=.tuple #[.agg #[.int .i64 r.k,.int .i64 r.n,.string ⟨r.t.toArray⟩],.int .i64 r.stop,.int .i64 r.e]
def bad (e:Int):Res:=⟨0,0,[],0,e⟩
def textR (l:List UInt8) (at_:Int):Res :=
 match textScan l with
 | none=>bad 11
 | some (t,n)=>if 64<t.length then bad 13 else ⟨2,0,t,at_+n+1,0⟩
def textIs (l:List UInt8) (i k:Nat) (acc:List UInt8):Prop :=
 textScan (l.drop i)=(textScan (l.drop k)).map fun p=>(acc++p.1,p.2+(k - i))
theorem textIs_start (l:List UInt8) (i:Nat):textIs l i i []:=by
 unfold textIs
 cases textScan (l.drop i) with
 | none=>rfl
 | some p=>simp
theorem drop_ne {l:List UInt8} {k:Nat} (h:k<l.length):l.drop k≠[]:=by simp;omega
theorem bt_drop (l:List UInt8) (k j:Nat):bt (l.drop k) j=bt l (k+j):=by
 simp [bt,List.getD]
theorem textIs_step {l:List UInt8} {i k:Nat} {acc:List UInt8} (h:textIs l i k acc) (hik:i<=k) (hk:k<l.length) (hq:bt l k≠34) (hn:(scanB (l.drop k)).2≠0) :
 textIs l i (k+(scanB (l.drop k)).2.toNat) (acc++[UInt8.ofNat (scanB (l.drop k)).1.toNat]):=by
 unfold textIs at *
 rw[h,textScan_step (drop_ne hk) (by rw[bt_drop];exact hq) hn,List.drop_drop]
 cases textScan (l.drop (k+(scanB (l.drop k)).2.toNat)) with
 | none=>rfl
 | some p =>
   simp only[Option.map_some,List.append_assoc,List.singleton_append,Option.some.injEq,Prod.mk.injEq,true_and]
   omega
theorem textR_bad {l:List UInt8} {i k:Nat} {acc:List UInt8} (h:textIs l i k acc) (hk:k<l.length) (hq:bt l k≠34) (hn:(scanB (l.drop k)).2=0):textR (l.drop i) i=bad 11:=by
 unfold textR
 rw[h,textScan_bad (drop_ne hk) (by rw[bt_drop];exact hq) hn]
 rfl
theorem textR_end {l:List UInt8} {i k:Nat} {acc:List UInt8} (h:textIs l i k acc) (hk:k=l.length):textR (l.drop i) i=bad 11:=by
 subst hk
 unfold textR
 rw[h,List.drop_of_length_le (Nat.le_refl _),textScan_nil]
 rfl
theorem textR_long {l:List UInt8} {i k:Nat} {acc:List UInt8} (h:textIs l i k acc) (hk:k<l.length) (hq:bt l k=34) (hl:64<acc.length):textR (l.drop i) i=bad 13:=by
 unfold textR
 rw[h,textScan_quote (drop_ne hk) (by rw[bt_drop];exact hq)]
 simp [hl]
theorem textR_good {l:List UInt8} {i k:Nat} {acc:List UInt8} (h:textIs l i k acc) (hik:i<=k) (hk:k<l.length) (hq:bt l k=34) (hl:acc.length<=64):textR (l.drop i) i=⟨2,0,acc,k+1,0⟩:=by
 unfold textR
 rw[h,textScan_quote (drop_ne hk) (by rw[bt_drop];exact hq)]
 simp only[Option.map_some,List.append_nil,Nat.zero_add]
 rw[if_neg (by omega)]
 congr 1
 omega
theorem cells_snoc (acc:List UInt8) (c:Int) (h0:0<=c) (h1:c<=255):Lib.byteCells (acc++[UInt8.ofNat c.toNat])=Lib.byteCells acc++[.int .u8 c]:=by
 have:((UInt8.ofNat c.toNat).toNat:Int)=c:=by
  rw[UInt8.toNat_ofNat']
  omega
 unfold Lib.byteCells
 rw[List.map_append,List.map_cons,List.map_nil,this]
theorem Tryz.infoByte:(Tryz.prog.info? 5).map (fun i=>(i.zero,i.size,i.bytes))=some (some (.int .u8 0),1,1):=by kernel_rfl
theorem extract_drop (s:ByteArray) (k:Nat):(s.extract k s.size).data.toList=s.data.toList.drop k:=by
 rw[Lib.extract_data]
 apply List.take_of_length_le
 rw[List.length_drop]
 exact Nat.le_refl _
theorem scanByte_at (s:ByteArray) (k:Nat) (w:World) (h:k<s.size) :
 Calls Tryz.prog 315 #[.string (s.extract k s.size)] w fun e w'=>e=.returned (.tuple #[.int .u8 (scanB (s.data.toList.drop k)).1,.int .i64 (scanB (s.data.toList.drop k)).2])/\Below w.heap.size w w':=by
 have:=scanByte_any (s.extract k s.size) w (by rw[Lib.size_eq,extract_drop,List.length_drop,<-Lib.size_eq];omega)
 rw[extract_drop] at this
 exact this
set_option maxHeartbeats 2000000 in
theorem bstore3 {w wr:World} (h:Below w.heap.size w wr) (a b c:Value):Below w.heap.size w (((wr.setCell ⟨w.heap.size,0,none⟩ a).setCell ⟨w.heap.size,1,none⟩ b).setCell ⟨w.heap.size,2,none⟩ c) :=
 ((h.setCell (p:=⟨w.heap.size,0,none⟩) (Nat.le_refl _) a).setCell (p:=⟨w.heap.size,1,none⟩) (Nat.le_refl _) b).setCell (p:=⟨w.heap.size,2,none⟩) (Nat.le_refl _) c
set_option maxHeartbeats 4000000 in
set_option maxRecDepth 100000 in
theorem scanText_any (s:ByteArray) (i:Nat) (w:World) (hi:i<=s.size) (hs:s.size<=i+140737488355328) (hs2:s.size<=281474976710656) :
 Calls Tryz.prog 292 #[.string s,.int .i64 i] w fun e w'=>e=.returned (textR (s.data.toList.drop i) i).v/\Below w.heap.size w w':=by
 obtain⟨i0,hi0,hz0,hz1,hz2⟩:=info_parts Tryz.infoByte
 have hsl:s.data.toList.length=s.size:=rfl
 have HSL:=Lib.hid hsl
 clear hsl
 generalize hL:s.data.toList=l at *
 have HL:=Lib.hid hL
 clear hL
 go_enter Tryz.func292,Tryz.ntmps292
 go_wp2_with fail
 go_loopw [7,1] (fun v ix wr=>∃ (k:Nat) (acc:List UInt8) (a:Option Addr) (cap:Nat),i<=k/\k<=s.size/\ix=.int .i64 k/\v=.slice a acc.length cap/\wr.ownsRow (w.heap.size+1) 5 1 (.slice a acc.length cap) acc.length (Lib.byteCells acc)/\Below w.heap.size w wr/\Blk wr w.heap.size 111 #[.int .i64 0,.int .i64 0,.string ⟨#[]⟩]/\acc.length+i<=k/\textIs l i k acc) (fun _ ix _=>s.size - (intOf ix).toNat)
 case atStart =>
  exact⟨i,[],none,0,Nat.le_refl _,hi,rfl,rfl,World.ownsRow_nil _ _ _ _,balloc (Below.refl _ _) _,Blk.new _ _ _,by simp,textIs_start l i⟩
 case round =>
  obtain⟨k,acc,a,cap,hik,hk,rfl,rfl,hown,hbel,hblk,hacc,hrel⟩:=hrel
  have HR:=Lib.hid hrel
  have HO:=Lib.hid hown
  clear hrel hown
  have hsz:=hbel.size
  have r0:=hblk.cell 0
  have r1:=hblk.cell 1
  have r2:=hblk.cell 2
  have z0:=hblk.frozen 0
  have z1:=hblk.frozen 1
  have z2:=hblk.frozen 2
  simp at r0 r1 r2
  by_cases hlt:k<s.size
  ·have hbt:=bt_of s k hlt
   rw[HL.out] at hbt
   have hkl:k<l.length:=by have:=HSL.out;omega
   by_cases hq:bt l k=34
   ·have hne:((k:Int) == (s.size:Int))=false:=by simp;omega
    have hne2:(k == s.size)=false:=by simp;omega
    have q1:(((s[k]'hlt).toNat:Int) != 34)=false:=by rw[hbt];simp [hq]
    have HBT:=Lib.hid hbt
    clear hbt
    by_cases h64:64<acc.length
    ·have HE:=Lib.hid (textR_long HR.out hkl hq h64)
     clear hq
     go_wp2_with fail
     refine bodyPost_ret (v:=(bad 13).v) (by simp [results,Tryz.results292,go_sem, *];rfl) rfl ⟨by rw[HE.out],bstore3 hbel _ _ _⟩
    ·have HE:=Lib.hid (textR_good HR.out hik hkl hq (by omega))
     have hcv:=run_conv_own (P:=Tryz.prog) Tryz.underlying154 Tryz.underlying5 Tryz.underlying9 HO.out
     clear hq
     go_wp2_with fail
     refine bodyPost_ret (v:=(⟨2,0,acc,k+1,0⟩:Res).v) (by simp [results,Tryz.results292,go_sem, *];rfl) rfl ⟨by rw[HE.out],bstore3 hbel _ _ _⟩
   ·have q1:(((s[k]'hlt).toNat:Int) != 34)=true:=by rw[hbt];simpa using hq
    have HBT:=Lib.hid hbt
    clear hbt
    have hbd:=scanB_bd (l.drop k) (drop_ne hkl)
    have hdl:(l.drop k).length=s.size - k:=by rw[List.length_drop,HSL.out]
    rw[hdl] at hbd
    have HDL:=Lib.hid hdl
    clear hdl
    have hsc:=scanByte_at s k wr hlt
    rw[HL.out] at hsc
    by_cases hn:(scanB (l.drop k)).2=0
    ·have HE:=Lib.hid (textR_bad HR.out hkl hq hn)
     have hn':((scanB (l.drop k)).2 == 0)=true:=by simpa using hn
     have HSC:=Lib.hid hsc
     clear hq hn hsc
     go_wp2_with fail
     refine HSC.out.mono ?_
     rintro e w1 ⟨rfl,hb1⟩
     have hb1':=hbel.trans (hb1.mono hsz)
     have hblk1:=hblk.below hb1 (by have:=hblk.lt;omega)
     have r0:=hblk1.cell 0
     have r1:=hblk1.cell 1
     have r2:=hblk1.cell 2
     have z0:=hblk1.frozen 0
     have z1:=hblk1.frozen 1
     have z2:=hblk1.frozen 2
     simp at r0 r1 r2
     go_wp2_with fail
     refine bodyPost_ret (v:=(bad 11).v) (by simp [results,Tryz.results292,go_sem, *];rfl) rfl ⟨by rw[HE.out],bstore3 hb1' _ _ _⟩
    ·have hst:=textIs_step HR.out hik hkl hq hn
     have HST:=Lib.hid hst
     have hn':((scanB (l.drop k)).2 == 0)=false:=by simpa using hn
     have HSC:=Lib.hid hsc
     have hn1:1<=(scanB (l.drop k)).2:=by omega
     have hsn:=cells_snoc acc (scanB (l.drop k)).1 hbd.1.1 hbd.1.2
     have HSN:=Lib.hid hsn
     clear hq hn hsc hst hsn
     go_wp2_with fail
     refine HSC.out.mono ?_
     rintro e w1 ⟨rfl,hb1⟩
     have hb1':=hbel.trans (hb1.mono hsz)
     have hblk1:=hblk.below hb1 (by have:=hblk.lt;omega)
     have hown1:=(Mod.ofBelow (F:=fun _=>False) hb1).ownsRow HO.out (fun _ _ f=>f)
     have HO1:=Lib.hid hown1
     have HB1:=Lib.hid hblk1
     have hsz1:=hb1'.size
     clear hown1 hblk1 hblk r0 r1 r2 z0 z1 z2
     go_wp2_with (at_builtin;refine wpList_append_lies _ rfl (.tmp 30) (.tmp 32) 154 rfl (w.heap.size+1) 5 i0 (.int .u8 0) 1 1 Tryz.underlying154 hi0 hz0 hz1 hz2 rfl (by decide) (.slice a acc.length cap) acc.length _ rfl (HO1.out.alloc _) ⟨w1.heap.size,0,none⟩ 1 1 [.int .u8 (scanB (l.drop k)).1] rfl rfl (cell_one_new _ _ _) ?c2 (by decide) ?c3 (by omega) ?c4 (w1.heap.size+1) (by simp) ?_)
     case c2=>intro u hu;simp at hu;subst hu;rfl
     case c3=>unfold maxLen;omega
     case c4=>have:=HB1.out.lt;simp;omega
     intro g cap1 w2 hown2 hgrow2 hat2 hlt2
     have hb2:Below w.heap.size w w2:=(balloc hb1' _).grown hgrow2 (by simp;omega) (fun q hq=>by have:=(HO1.out.lt q hq).1;omega)
     have hblk2:=(HB1.out.alloc (.cells #[.int .u8 (scanB (l.drop k)).1] 5)).grown hgrow2 (fun e=>own_blk_ne HO1.out HB1.out (by decide) e.symm)
     have HO2:=Lib.hid hown2
     have HB2:=Lib.hid hblk2
     clear hown2 hblk2
     go_wp2_with fail
     have hkey:(acc++[UInt8.ofNat (scanB (l.drop k)).1.toNat]).length=acc.length+1:=by simp
     refine⟨⟨k+(scanB (l.drop k)).2.toNat,acc++[UInt8.ofNat (scanB (l.drop k)).1.toNat],some ⟨g,0,none⟩,cap1,by omega,by omega,congrArg (Value.int .i64) (by omega),by rw[hkey],?_,hb2,HB2.out,by rw[hkey];omega,HST.out⟩,?_⟩
     ·rw[hkey,HSN.out];exact HO2.out
     ·simp only[intOf];omega
  ·have hke:k=s.size:=by omega
   subst hke
   have HE:=Lib.hid (textR_end HR.out HSL.out.symm)
   have hne:((s.size:Int) == (s.size:Int))=true:=by simp
   go_wp2_with fail
   refine bodyPost_ret (v:=(bad 11).v) (by simp [results,Tryz.results292,go_sem, *];rfl) rfl ⟨by rw[HE.out],bstore3 hbel _ _ _⟩
structure Glob (w:World):Prop where
 syn:∃ tp p,w.var? Tryz.prog "strconv.ErrSyntax" = some #[.iface tp p]
 rng:∃ tp p,w.var? Tryz.prog "strconv.ErrRange" = some #[.iface tp p]
 tab:Lib.TabIs Tryz.prog w "internal/strconv.uint64pow10" .u64 Lib.pow10Tab
 many:6+1<=w.heap.size
theorem Glob.below {w w':World} (h:Glob w) (hb:Below w.heap.size w w'):Glob w':=by
 have hm:=h.many
 obtain⟨tp,p,h1⟩:=h.syn
 obtain⟨tq,q,h2⟩:=h.rng
 exact⟨⟨tp,p,var?_below hb (g:=5) (by kernel_rfl) (by omega) h1⟩,⟨tq,q,var?_below hb (g:=6) (by kernel_rfl) (by omega) h2⟩,
  var?_below hb (g:=1) (by kernel_rfl) (by omega) h.tab,Nat.le_trans hm hb.size⟩
def digs (l:List UInt8):Nat:=(l.takeWhile fun c=>digB c.toNat).length
theorem digs_step {l:List UInt8} {k:Nat} (hk:k<l.length) (hd:digB (bt l k)=true):digs (l.drop k)=1+digs (l.drop (k+1)):=by
 unfold digs
 rw[List.drop_eq_getElem_cons hk]
 have:digB (l[k].toNat:Int)=true:=by
  have e:bt l k=(l[k].toNat:Int):=by simp [bt,hk]
  rw[<-e];exact hd
 rw[List.takeWhile_cons,if_pos this,List.length_cons]
 omega
theorem digs_stop {l:List UInt8} {k:Nat} (hk:k<l.length) (hd:digB (bt l k)=false):digs (l.drop k)=0:=by
 unfold digs
 rw[List.drop_eq_getElem_cons hk]
 have:¬ digB (l[k].toNat:Int)=true:=by
  have e:bt l k=(l[k].toNat:Int):=by simp [bt,hk]
  rw[<-e,hd];simp
 rw[List.takeWhile_cons,if_neg this]
 rfl
theorem digs_le (l:List UInt8):digs l<=l.length:=by
 unfold digs
 induction l with
 | nil=>simp
 | cons a l ih =>
   rw[List.takeWhile_cons]
   split
   ·simp;exact ih
   ·simp
def numTok (l:List UInt8) (a:Nat):List UInt8:=(l.drop a).take (1+digs (l.drop (a+1)))
def numR (l:List UInt8) (a:Nat):Res :=
 if bt (Lib.trimPrefix (numTok l a) [45]) 0=48/\1<(numTok l a).length then bad 12
 else match Lib.parseIntB 64 (numTok l a) with
  | .ok v=>⟨1,v,[],a+(numTok l a).length,0⟩
  | _=>bad 12
theorem numTok_len {l:List UInt8} {a:Nat} (h:a<l.length):(numTok l a).length=1+digs (l.drop (a+1)):=by
 have:=digs_le (l.drop (a+1))
 rw[List.length_drop] at this
 unfold numTok
 rw[List.length_take,List.length_drop]
 omega
set_option maxHeartbeats 4000000 in
set_option maxRecDepth 100000 in
theorem scanNumber_any (s:ByteArray) (a:Nat) (w:World) (ha:a<s.size) (hs:s.size<=281474976710656) (hne:Lib.trimPrefix (numTok s.data.toList a) [45]≠[]) (hg:Glob w) :
 Calls Tryz.prog 294 #[.string s,.int .i64 a] w fun e w'=>e=.returned (numR s.data.toList a).v/\Below w.heap.size w w':=by
 have hsl:s.data.toList.length=s.size:=rfl
 have HSL:=Lib.hid hsl
 clear hsl
 generalize hL:s.data.toList=l at *
 have HL:=Lib.hid hL
 have HNE:=Lib.hid hne
 have HG:=Lib.hid hg
 clear hL hne hg
 go_enter Tryz.func294,Tryz.ntmps294
 go_wp2_with fail
 go_loop [7] (fun ix=>∃ (k:Nat),a+1<=k/\k<=s.size/\ix=.int .i64 k/\digs (l.drop (a+1))+(a+1)=k+digs (l.drop k)) (fun ix=>s.size - (intOf ix).toNat)
 case atStart =>
  exact⟨a+1,Nat.le_refl _,ha,rfl,by omega⟩
 case round =>
  obtain⟨k,hak,hk,rfl,hrel⟩:=hrel
  have HR:=Lib.hid hrel
  clear hrel
  by_cases hc:k<s.size/\digB (bt l k)=true
  ·obtain⟨hlt,hd⟩:=hc
   have hbt:=bt_of s k hlt
   rw[HL.out] at hbt
   have hkl:k<l.length:=by have:=HSL.out;omega
   have hst:=digs_step hkl hd
   have HST:=Lib.hid hst
   have hd':digB ((s[k]'hlt).toNat:Int)=true:=by rw[hbt];exact hd
   clear hst hbt hd
   go_wp2_with (go_at_call 293;refine (isDigit_any _ _).mono ?_;rintro e w' ⟨rfl,rfl⟩)
   go_round
   case rel=>exact⟨k+1,by omega,by omega,by go_num,by have:=HST.out;have:=HR.out;omega⟩
   case measure=>simp [intOf];omega
  ·have hend:digs (l.drop k)=0:=by
    by_cases hlt:k<s.size
    ·exact digs_stop (by have:=HSL.out;omega) (by simpa using fun h=>hc ⟨hlt,h⟩)
    ·rw[List.drop_of_length_le (by have:=HSL.out;omega)];rfl
   have htok:(s.extract a k).data.toList=numTok l a:=by
    rw[Lib.extract_data,HL.out]
    unfold numTok
    congr 1
    have:=HR.out
    omega
   have hlen:(numTok l a).length=k - a:=by
    have:=numTok_len (l:=l) (a:=a) (by have:=HSL.out;omega)
    have:=HR.out
    omega
   have htp:=Tryz.strings_TrimPrefix (s.extract a k) ⟨#[45]⟩ (w.alloc (.cells #[.int .i64 0,.int .i64 0,.string ⟨#[]⟩] 111))
   rw[htok] at htp
   have HT:=Lib.hid htok
   have HLN:=Lib.hid hlen
   have HTP:=Lib.hid htp
   clear htok hlen htp hend
   have r0:(w.alloc (.cells #[.int .i64 0,.int .i64 0,.string ⟨#[]⟩] 111)).cell? ⟨w.heap.size,0,none⟩=some (.int .i64 0):=by simp
   have hb0:Below w.heap.size w (w.alloc (.cells #[.int .i64 0,.int .i64 0,.string ⟨#[]⟩] 111)):=balloc (Below.refl _ _) _
   have hB0:Blk (w.alloc (.cells #[.int .i64 0,.int .i64 0,.string ⟨#[]⟩] 111)) w.heap.size 111 #[.int .i64 0,.int .i64 0,.string ⟨#[]⟩]:=Blk.new _ _ _
   have HB:=Lib.hid (And.intro hb0 hB0)
   clear r0 hb0 hB0
   by_cases hlt:k<s.size
   case' pos =>
    have hd':digB ((s[k]'hlt).toNat:Int)=false:=by
     rw[bt_of s k hlt,HL.out]
     simpa using fun h=>hc ⟨hlt,h⟩
    have HC:=Lib.hid hc
    clear hc
    go_wp2_with (go_at_call 293;refine (isDigit_any _ _).mono ?_;rintro e w' ⟨rfl,rfl⟩)
   case' neg =>
    have HC:=Lib.hid hc
    clear hc
    go_wp2_with fail
   all_goals
    refine HTP.out.mono ?_
    rintro e w1 ⟨rfl,rfl⟩
    generalize hd:(⟨(Lib.trimPrefix (numTok l a) [45]).toArray⟩:ByteArray)=d
    have hdl:d.data.toList=Lib.trimPrefix (numTok l a) [45]:=by rw[<-hd]
    have h0:0<d.size:=by
     rw[Lib.size_eq,hdl]
     exact List.length_pos_iff.2 HNE.out
    have hb:=bt_of d 0 h0
    rw[hdl] at hb
    have HD:=Lib.hid hdl
    have HN:Hid (numR l a=if bt (Lib.trimPrefix (numTok l a) [45]) 0=48/\1<k - a then bad 12 else match Lib.parseIntB 64 (numTok l a) with | .ok v=>⟨1,v,[],k,0⟩ | _=>bad 12):=Lib.hid <| by
     have hl2:=HLN.out
     unfold numR
     rw[hl2]
     have:(a:Int)+((k - a:Nat):Int)=k:=by omega
     rw[this]
    clear hd hdl
    generalize hbb:bt (Lib.trimPrefix (numTok l a) [45]) 0=b0 at *
    clear hbb
    by_cases hz:b0=48/\1<k - a
    ·have HE:Hid (numR l a=bad 12):=Lib.hid (by rw[HN.out,if_pos hz])
     obtain⟨hz1,hz2⟩:=hz
     have q1:(b0 == 48)=true:=by simpa using hz1
     have q2:(1:Int)<(k:Int) - a:=by omega
     clear hz1 hz2
     go_wp2_with fail
     refine bodyPost_ret (v:=(bad 12).v) (by simp [results,Tryz.results294,go_sem, *];rfl) rfl ⟨by rw[HE.out],?_⟩
     have hb3:=bstore3 HB.out.1 (.int .i64 0) (.int .i64 0) (.string ⟨#[]⟩)
     simpa [go_sem] using hb3
    ·have q1:(b0 == 48)=false∨((b0 == 48)=true/\(k:Int) - a<=1):=by
      by_cases h48:b0=48
      ·right;exact⟨by simpa using h48,by have:¬ 1<k - a:=fun h=>hz ⟨h48,h⟩;omega⟩
      ·left;simpa using h48
     cases hp:Lib.parseIntB 64 (numTok l a) with
     | ok v =>
       have HE:Hid (numR l a=⟨1,v,[],k,0⟩):=Lib.hid (by rw[HN.out,if_neg hz,hp])
       have hpc:=Tryz.strconv_ParseInt_10_at64_ok (s.extract a k) (by rw[Lib.size_eq,HT.out,HLN.out];omega) v (by rw[HT.out];exact hp)
       have HPC:=Lib.hid hpc
       clear hp hpc hz
       rcases q1 with q1 | ⟨q1,q2⟩
       all_goals
        go_wp2_with fail
        refine (HPC.out _).mono ?_
        rintro e w2 ⟨rfl,hw⟩
        have hb2:Below (w.alloc (.cells #[.int .i64 0,.int .i64 0,.string ⟨#[]⟩] 111)).heap.size (w.alloc (.cells #[.int .i64 0,.int .i64 0,.string ⟨#[]⟩] 111)) w2:=by
         rcases hw with rfl | ⟨t,rfl⟩
         ·exact Below.refl _ _
         ·exact Lib.bytesWorld_below _ _ _
        have hb3:Below w.heap.size w w2:=HB.out.1.trans (hb2.mono (by simp))
        have hblk:=HB.out.2.below hb2 (by simp)
        have c0:=hblk.cell 0
        have c1:=hblk.cell 1
        have c2:=hblk.cell 2
        have z0:=hblk.frozen 0
        have z1:=hblk.frozen 1
        have z2:=hblk.frozen 2
        simp at c0 c1 c2
        clear hw hb2 hblk
        go_wp2_with fail
        refine bodyPost_ret (v:=(⟨1,v,[],k,0⟩:Res).v) (by simp [results,Tryz.results294,go_sem, *];rfl) rfl ⟨by rw[HE.out],?_⟩
        exact bstore3 hb3 _ _ _
     | range =>
       have HE:Hid (numR l a=bad 12):=Lib.hid (by rw[HN.out,if_neg hz,hp])
       obtain⟨tp,pv,hv⟩:=(HG.out.below (w':=w.alloc (.cells #[.int .i64 0,.int .i64 0,.string ⟨#[]⟩] 111)) HB.out.1).rng
       have hpc:=Tryz.strconv_ParseInt_10_at64_range_var (s.extract a k) (by rw[Lib.size_eq,HT.out,HLN.out];omega) (by rw[HT.out];exact hp) tp pv _ hv
       have HPC:=Lib.hid hpc
       clear hp hpc hz hv
       rcases q1 with q1 | ⟨q1,q2⟩
       all_goals
        go_wp2_with fail
        refine HPC.out.mono ?_
        rintro e w2 ⟨N,rfl,_,_,hb2⟩
        have hb3:Below w.heap.size w w2:=HB.out.1.trans (hb2.mono (by simp))
        have hblk:=HB.out.2.below hb2 (by simp)
        have c0:=hblk.cell 0
        have c1:=hblk.cell 1
        have c2:=hblk.cell 2
        have z0:=hblk.frozen 0
        have z1:=hblk.frozen 1
        have z2:=hblk.frozen 2
        simp at c0 c1 c2
        clear hb2 hblk
        go_wp2_with fail
        refine bodyPost_ret (v:=(bad 12).v) (by simp [results,Tryz.results294,go_sem, *];rfl) rfl ⟨by rw[HE.out],?_⟩
        exact bstore3 hb3 _ _ _
     | _ =>
       have HE:Hid (numR l a=bad 12):=Lib.hid (by rw[HN.out,if_neg hz,hp])
       obtain⟨tp,pv,hv⟩:=(HG.out.below (w':=w.alloc (.cells #[.int .i64 0,.int .i64 0,.string ⟨#[]⟩] 111)) HB.out.1).syn
       have hpc:=Any.strconv_ParseInt_10_at64_syntax_var Tryz.laysC174 (s.extract a k) (by rw[Lib.size_eq,HT.out,HLN.out];omega) (by rw[HT.out];exact hp) tp pv _ hv
       have HPC:=Lib.hid hpc
       clear hp hpc hz hv
       rcases q1 with q1 | ⟨q1,q2⟩
       all_goals
        go_wp2_with fail
        refine HPC.out.mono ?_
        rintro e w2 ⟨N,rfl,_,_,hb2⟩
        have hb3:Below w.heap.size w w2:=HB.out.1.trans (hb2.mono (by simp))
        have hblk:=HB.out.2.below hb2 (by simp)
        have c0:=hblk.cell 0
        have c1:=hblk.cell 1
        have c2:=hblk.cell 2
        have z0:=hblk.frozen 0
        have z1:=hblk.frozen 1
        have z2:=hblk.frozen 2
        simp at c0 c1 c2
        clear hb2 hblk
        go_wp2_with fail
        refine bodyPost_ret (v:=(bad 12).v) (by simp [results,Tryz.results294,go_sem, *];rfl) rfl ⟨by rw[HE.out],?_⟩
        exact bstore3 hb3 _ _ _
structure Tok where
 k:Int
 x:List UInt8
 vk:Int
 vn:Int
 vt:List UInt8
 p:Int
def tok0:Tok:=⟨0,[],0,0,[],0⟩
def endTok (n:Nat):Tok:=⟨0,[],0,0,[],n⟩
def Tok.v (t:Tok):Value:=.agg #[.int .i64 t.k,.string ⟨t.x.toArray⟩,.int .i64 t.vk,.int .i64 t.vn,.string ⟨t.vt.toArray⟩,.int .i64 t.p]
def Tok.cells (t:Tok):List Value:=[.int .i64 t.k,.string ⟨t.x.toArray⟩,.int .i64 t.vk,.int .i64 t.vn,.string ⟨t.vt.toArray⟩,.int .i64 t.p]
def tcells (ts:List Tok):List Value:=ts.flatMap Tok.cells
theorem tcells_snoc (ts:List Tok) (t:Tok):tcells (ts++[t])=tcells ts++t.cells:=by simp [tcells]
theorem tcells_len (ts:List Tok):(tcells ts).length=ts.length * 6:=by
 unfold tcells
 induction ts with
 | nil=>rfl
 | cons a l ih=>simp [List.flatMap_cons,Tok.cells,ih];omega
theorem tcells_at (ts:List Tok) (i:Nat) (t:Tok) (h:ts[i]? = some t) :
 (tcells ts)[i * 6]? = some (.int .i64 t.k)/\(tcells ts)[i * 6+1]? = some (.string ⟨t.x.toArray⟩)/\(tcells ts)[i * 6+2]? = some (.int .i64 t.vk)/\(tcells ts)[i * 6+3]? = some (.int .i64 t.vn)/\(tcells ts)[i * 6+4]? = some (.string ⟨t.vt.toArray⟩)/\(tcells ts)[i * 6+5]? = some (.int .i64 t.p):=by
 unfold tcells
 induction ts generalizing i with
 | nil=>simp at h
 | cons a l ih =>
   cases i with
   | zero=>simp at h;subst h;simp [List.flatMap_cons,Tok.cells]
   | succ i =>
     have:=ih i (by simpa using h)
     simp only[List.flatMap_cons,Tok.cells]
     have e1:(i+1) * 6=i * 6+6:=by omega
     rw[e1]
     simpa using this
variable {P : Program}
theorem mod_setRow (w:World) (b:Nat) (cs:Array Value):Mod (fun k=>k=b) w (w.setRow b cs) :=
 ⟨rfl,rfl,rfl,by simp [World.setRow],fun i hi hn=>by
  simp only[World.setRow,Array.getElem?_modify]
  rw[if_neg (fun e=>hn e.symm)]⟩
theorem blk_setRow {w:World} {b:Nat} {t:TypeId} {cs0 cs:Array Value} (h:Blk w b t cs0):Blk (w.setRow b cs) b t cs:=by
 unfold Blk at h ⊢
 simp [World.setRow,Array.getElem?_modify,h]
theorem wp_store_blk {op:Oper} {a:Act} {w:World} {K:Act->World->Prop} {Q:Exit->Act->World->Prop} (ty:TypeId) (x y:Operand) (ho:op.op=.store ty x y)
 (b:Nat) (t:TypeId) (cs0 cells:Array Value) (hx:a.eval x=.pointer (some ⟨b,0,none⟩)) (hy:a.eval y=.agg cells) (hb:Blk w b t cs0)
 (hi:(P.info? ty).map (·.size)=some cells.size) (hsz:cs0.size=cells.size) (h1:cells.all (·.oneCell')=true)
 (h:∀ w',Blk w' b t cells->Mod (fun k=>k=b) w w'->w'.heap.size=w.heap.size->K (a.put op.dst undef) w'):op.wp P a w K Q:=by
 unfold Oper.wp execOp
 simp only[ho,hx,hy,Instr.storeAt,Instr.sureAddr,Sem.run_bind,Sem.run_pure,Result.andThen_ok,run_storeVar_row (P:=P) w b t ty cs0 cells hb hi hsz h1]
 exact h _ (blk_setRow hb) (mod_setRow w b cells) (by simp [World.setRow])
theorem wpList_store_blk {ops:Array Oper} {rest:List Oper} {op:Oper} {a:Act} {w:World} {Q:Exit->Act->World->Prop} (hgd:op.guard=none) (ty:TypeId) (x y:Operand) (ho:op.op=.store ty x y)
 (b:Nat) (t:TypeId) (cs0 cells:Array Value) (hx:a.eval x=.pointer (some ⟨b,0,none⟩)) (hy:a.eval y=.agg cells) (hb:Blk w b t cs0)
 (hi:(P.info? ty).map (·.size)=some cells.size) (hsz:cs0.size=cells.size) (h1:cells.all (·.oneCell')=true)
 (h:∀ w',Blk w' b t cells->Mod (fun k=>k=b) w w'->w'.heap.size=w.heap.size->wpList P ops Q rest (a.put op.dst undef) w'):wpList P ops Q (op::rest) a w :=
 wpList_plain hgd fun _ hK=>wp_store_blk ty x y ho b t cs0 cells hx hy hb hi hsz h1 fun w' h2 h3 h4=>hK _ _ (h w' h2 h3 h4)
theorem step_store_blk {ops:Array Oper} {op:Oper} {a:Act} {w:World} {K:Act->World->Prop} {Q:Exit->Act->World->Prop} {E:Prop} (hgd:op.guard=none) (ty:TypeId) (x y:Operand) (ho:op.op=.store ty x y)
 (b:Nat) (t:TypeId) (cs0 cells:Array Value) (hx:a.eval x=.pointer (some ⟨b,0,none⟩)) (hy:a.eval y=.agg cells) (hb:Blk w b t cs0)
 (hi:(P.info? ty).map (·.size)=some cells.size) (hsz:cs0.size=cells.size) (h1:cells.all (·.oneCell')=true)
 (h:∀ w',Blk w' b t cells->Mod (fun k=>k=b) w w'->w'.heap.size=w.heap.size->K (a.put op.dst undef) w') :
 if Region.wanted op (yielded ops a.tmps)=true then Oper.wp P op a w K Q else E:=by
 have hw:Region.wanted op (yielded ops a.tmps)=true:=by simp [Region.wanted,hgd]
 rw[if_pos hw]
 exact wp_store_blk ty x y ho b t cs0 cells hx hy hb hi hsz h1 h
theorem Mod.own {b:Nat} {w0 w w':World} (h:Below w0.heap.size w0 w) (hm:Mod (fun k=>k=b) w w') (hb:w0.heap.size<=b):Below w0.heap.size w0 w' :=
 ⟨hm.os.trans h.os,hm.tape.trans h.tape,hm.output.trans h.output,Nat.le_trans h.size hm.size,fun i hi =>
  (hm.block i (by have hs:=h.size;omega) (by omega)).trans (h.block i hi)⟩
def numAt (r:List UInt8):Bool:=decide (0<r.length/\digB (bt r 0)=true∨1<r.length/\bt r 0=45/\digB (bt r 1)=true)
def scanR (l:List UInt8) (at_:Int):Res :=
 if at_<0∨(l.length:Int)<at_ then bad 10
 else if Lib.hasPrefix (l.drop at_.toNat) [34] then textR (l.drop (at_.toNat+1)) (at_+1)
 else if numAt (l.drop at_.toNat) then numR l at_.toNat
 else bad 11
theorem numTok_head {l:List UInt8} {a:Nat} (h:a<l.length):bt (numTok l a) 0=bt l a/\numTok l a≠[]:=by
 have hl:=numTok_len h
 refine⟨?_,fun e=>by rw[e] at hl;simp at hl;omega⟩
 unfold numTok
 rw[List.drop_eq_getElem_cons h,Nat.add_comm 1,List.take_succ_cons]
 simp [bt,h]
theorem trim_num {l:List UInt8} {a:Nat} (hn:numAt (l.drop a)=true) (ha:a<=l.length):a<l.length/\Lib.trimPrefix (numTok l a) [45]≠[]:=by
 unfold numAt at hn
 simp only[decide_eq_true_eq,List.length_drop,bt_drop,Nat.add_zero] at hn
 have hlt:a<l.length:=by omega
 obtain⟨h1,h2⟩:=numTok_head hlt
 have hl:=numTok_len hlt
 refine⟨hlt,?_⟩
 unfold Lib.trimPrefix Lib.hasPrefix
 cases ht:numTok l a with
 | nil=>exact absurd ht h2
 | cons c r =>
   rw[ht] at h1 hl
   have hc:(c.toNat:Int)=bt l a:=by rw[<-h1];simp [bt]
   by_cases h45:c=45
   ·subst h45
    have e:bt l a=45:=by rw[<-hc];rfl
    have hd0:digB (bt l a)=false:=by rw[e];rfl
    rw[hd0] at hn
    simp only[Bool.false_eq_true,and_false,false_or] at hn
    have h3:a+1<l.length:=by omega
    have:=digs_step h3 hn.2.2
    simp only[List.isPrefixOf,beq_self_eq_true,Bool.and_true,if_true,List.length_cons,List.length_nil,List.drop_succ_cons,List.drop_zero]
    intro e2
    rw[e2] at hl
    simp at hl
    omega
   ·have:List.isPrefixOf [45] (c::r)=false:=by simp [List.isPrefixOf,Ne.symm h45]
    rw[this]
    simp
set_option maxHeartbeats 4000000 in
set_option maxRecDepth 100000 in
theorem scan_out (s:ByteArray) (a:Int) (w:World) (ha:a<0∨(s.size:Int)<a) :
 Calls Tryz.prog 265 #[.string s,.int .i64 a] w fun e w'=>e=.returned (scanR s.data.toList a).v/\Below w.heap.size w w':=by
 have HE:Hid (scanR s.data.toList a=bad 10):=Lib.hid (by unfold scanR;exact if_pos ha)
 have hb:=bstore3 (balloc (Below.refl w.heap.size w) (.cells #[.int .i64 0,.int .i64 0,.string ⟨#[]⟩] 111)) (.int .i64 0) (.int .i64 0) (.string ⟨#[]⟩)
 have HB:=Lib.hid hb
 clear hb
 by_cases h1:a<0
 ·clear ha
  go_enter Tryz.func265,Tryz.ntmps265
  go_wp2_with fail
  refine bodyPost_ret (v:=(bad 10).v) (by simp [results,Tryz.results265,go_sem, *];rfl) rfl ⟨by rw[HE.out],?_⟩
  simpa [go_sem] using HB.out
 ·have h2:(s.size:Int)<a:=by omega
  clear ha
  go_enter Tryz.func265,Tryz.ntmps265
  go_wp2_with fail
  refine bodyPost_ret (v:=(bad 10).v) (by simp [results,Tryz.results265,go_sem, *];rfl) rfl ⟨by rw[HE.out],?_⟩
  simpa [go_sem] using HB.out
set_option maxHeartbeats 4000000 in
set_option maxRecDepth 100000 in
theorem scan_in (s:ByteArray) (a:Nat) (w:World) (ha:a<=s.size) (hs:s.size<=a+140737488355328) (hs2:s.size<=281474976710656) (hg:Glob w) :
 Calls Tryz.prog 265 #[.string s,.int .i64 a] w fun e w'=>e=.returned (scanR s.data.toList a).v/\Below w.heap.size w w':=by
 have hsl:s.data.toList.length=s.size:=rfl
 have HE:Hid (scanR s.data.toList a=if Lib.hasPrefix (s.data.toList.drop a) [34] then textR (s.data.toList.drop (a+1)) (a+1) else if numAt (s.data.toList.drop a) then numR s.data.toList a else bad 11):=Lib.hid (by
  unfold scanR
  rw[if_neg (by rw[hsl];omega)]
  simp only[Int.toNat_natCast])
 have hx:=extract_drop s a
 have HX:=Lib.hid hx
 have HS:=Lib.hid hsl
 have HG:=Lib.hid hg
 have hW:Below w.heap.size w (w.alloc (.cells #[.int .i64 0,.int .i64 0,.string ⟨#[]⟩] 111))/\Blk (w.alloc (.cells #[.int .i64 0,.int .i64 0,.string ⟨#[]⟩] 111)) w.heap.size 111 #[.int .i64 0,.int .i64 0,.string ⟨#[]⟩]:=⟨balloc (Below.refl _ _) _,Blk.new _ _ _⟩
 have HW:=Lib.hid hW
 clear hx hsl hg hW
 have hpf:=fun W=>Tryz.strings_HasPrefix (s.extract a s.size) ⟨#[34]⟩ W
 have HP:=Lib.hid hpf
 clear hpf
 go_enter Tryz.func265,Tryz.ntmps265
 go_wp2_with fail
 refine (HP.out _).mono ?_
 rintro e w1 ⟨rfl,rfl⟩
 rw[HX.out]
 by_cases hp:Lib.hasPrefix (s.data.toList.drop a) [34]=true
 ·have HE2:Hid (scanR s.data.toList a=textR (s.data.toList.drop (a+1)) (a+1)):=Lib.hid (by rw[HE.out,if_pos hp])
  have hlt:a<s.size:=by
   have h1:s.data.toList.drop a≠[]:=by
    intro e;rw[e] at hp;simp [Lib.hasPrefix] at hp
   have h2:=HS.out
   have h3:=List.length_pos_iff.2 h1
   rw[List.length_drop] at h3
   omega
  have hst:=fun W=>scanText_any s (a+1) W (by omega) (by omega) hs2
  have hc:((a+1:Nat):Int)=(a:Int)+1:=by omega
  rw[hc] at hst
  have HST:=Lib.hid hst
  clear hst hc
  rw[hp]
  go_wp2_with fail
  refine (HST.out _).mono ?_
  rintro e w2 ⟨rfl,hb2⟩
  have hb3:=HW.out.1.trans (hb2.mono (by simp))
  have hblk:=HW.out.2.below hb2 (by simp)
  have c0:=hblk.cell 0
  have c1:=hblk.cell 1
  have c2:=hblk.cell 2
  have z0:=hblk.frozen 0
  have z1:=hblk.frozen 1
  have z2:=hblk.frozen 2
  simp at c0 c1 c2
  clear hb2 hblk
  generalize textR (s.data.toList.drop (a+1)) (↑a+1)=r at *
  unfold Res.v
  go_wp2_with fail
  refine bodyPost_ret (v:=r.v) (by simp [results,Tryz.results265,go_sem, *];rfl) rfl ⟨by rw[HE2.out],bstore3 hb3 _ _ _⟩
 ·have hp':Lib.hasPrefix (s.data.toList.drop a) [34]=false:=by simpa using hp
  rw[hp']
  have hdz:(s.extract a s.size).size=s.size - a:=by rw[Lib.size_eq,HX.out,List.length_drop,HS.out]
  generalize hd:s.extract a s.size=d at *
  have hdl:d.data.toList=s.data.toList.drop a:=HX.out
  have HDL:=Lib.hid hdl
  have HDZ:=Lib.hid hdz
  have hdn:(s.data.toList.drop a).length=d.size:=by rw[<-hdl];rfl
  have HDN:=Lib.hid hdn
  clear hd hdl hdz hdn
  by_cases hn:numAt (s.data.toList.drop a)=true
  ·have HE2:Hid (scanR s.data.toList a=numR s.data.toList a):=Lib.hid (by rw[HE.out,if_neg hp,if_pos hn])
   obtain⟨hlt,hne⟩:=trim_num hn (by have:=HS.out;omega)
   have hgw:=HG.out.below HW.out.1
   have hsn:=scanNumber_any s a _ (by have:=HS.out;omega) hs2 hne hgw
   have HSN:=Lib.hid hsn
   have hlt':a<s.size:=by have:=HS.out;omega
   have hd0:0<d.size:=by have:=HDZ.out;omega
   have hne1:(!d.toList.isEmpty)=true:=by
    rw[ByteArray.toList_eq,HDL.out]
    have:=drop_ne hlt
    cases h:s.data.toList.drop a with
    | nil=>exact absurd h this
    | cons _ _=>rfl
   have hb0:=bt_of d 0 hd0
   rw[HDL.out] at hb0
   unfold numAt at hn
   rw[HDN.out] at hn
   simp only[decide_eq_true_eq] at hn
   have HNN:=Lib.hid hn
   have HXX:Hid (Lib.hasPrefix (s.data.toList.drop a) [34]=false):=Lib.hid hp'
   clear hsn hgw hp hp' hlt hne
   generalize hg0:bt (s.data.toList.drop a) 0=b0 at *
   clear hg0
   by_cases hdig:digB b0=true
   ·clear hn
    go_wp2_with (go_at_call 293;refine (isDigit_any _ _).mono ?_;rintro e w' ⟨rfl,rfl⟩)
    refine HSN.out.mono ?_
    rintro e w2 ⟨rfl,hb2⟩
    have hb3:=HW.out.1.trans (hb2.mono (by simp))
    have hblk:=HW.out.2.below hb2 (by simp)
    have c0:=hblk.cell 0
    have c1:=hblk.cell 1
    have c2:=hblk.cell 2
    have z0:=hblk.frozen 0
    have z1:=hblk.frozen 1
    have z2:=hblk.frozen 2
    simp at c0 c1 c2
    clear hb2 hblk
    generalize numR s.data.toList a=r at *
    unfold Res.v
    go_wp2_with fail
    refine bodyPost_ret (v:=r.v) (by simp [results,Tryz.results265,go_sem, *];rfl) rfl ⟨by rw[HE2.out],bstore3 hb3 _ _ _⟩
   ·have hdig':digB b0=false:=by simpa using hdig
    obtain⟨h2,h45,hd1⟩:1<d.size/\b0=45/\digB (bt (s.data.toList.drop a) 1)=true:=by
     rcases hn with hn | hn
     ·exact absurd hn.2 hdig
     ·exact hn
    have q1:(b0 == 45)=true:=by simpa using h45
    have hb1:=bt_of d 1 h2
    rw[HDL.out] at hb1
    generalize hg1:bt (s.data.toList.drop a) 1=b1 at *
    have h2':(1:Int)<d.size:=by omega
    clear hg1 hn hdig h45
    go_wp2_with (go_at_call 293;refine (isDigit_any _ _).mono ?_;rintro e w' ⟨rfl,rfl⟩)
    refine HSN.out.mono ?_
    rintro e w2 ⟨rfl,hb2⟩
    have hb3:=HW.out.1.trans (hb2.mono (by simp))
    have hblk:=HW.out.2.below hb2 (by simp)
    have c0:=hblk.cell 0
    have c1:=hblk.cell 1
    have c2:=hblk.cell 2
    have z0:=hblk.frozen 0
    have z1:=hblk.frozen 1
    have z2:=hblk.frozen 2
    simp at c0 c1 c2
    clear hb2 hblk
    generalize numR s.data.toList a=r at *
    unfold Res.v
    go_wp2_with fail
    refine bodyPost_ret (v:=r.v) (by simp [results,Tryz.results265,go_sem, *];rfl) rfl ⟨by rw[HE2.out],bstore3 hb3 _ _ _⟩
  ·have hn':numAt (s.data.toList.drop a)=false:=by simpa using hn
   have HE2:Hid (scanR s.data.toList a=bad 11):=Lib.hid (by rw[HE.out,if_neg hp,if_neg hn])
   unfold numAt at hn
   rw[HDN.out] at hn
   simp only[decide_eq_true_eq] at hn
   have HB3:=Lib.hid (bstore3 HW.out.1 (.int .i64 0) (.int .i64 0) (.string ⟨#[]⟩))
   have HXX:Hid (Lib.hasPrefix (s.data.toList.drop a) [34]=false):=Lib.hid hp'
   clear hp hp' hn'
   by_cases hd0:0<d.size
   ·have hne1:(!d.toList.isEmpty)=true:=by
     rw[ByteArray.toList_eq,HDL.out]
     have:=HDN.out
     cases h:s.data.toList.drop a with
     | nil=>rw[h] at this;simp at this;omega
     | cons _ _=>rfl
    have hb0:=bt_of d 0 hd0
    rw[HDL.out] at hb0
    have hdig:digB (bt (s.data.toList.drop a) 0)=false:=by
     cases h:digB (bt (s.data.toList.drop a) 0) with
     | false=>rfl
     | true=>exact absurd (.inl ⟨hd0,h⟩) hn
    by_cases h2:1<d.size
    ·have hb1:=bt_of d 1 h2
     rw[HDL.out] at hb1
     have h2':(1:Int)<d.size:=by omega
     by_cases h45:bt (s.data.toList.drop a) 0=45
     ·have hd1:digB (bt (s.data.toList.drop a) 1)=false:=by
       cases h:digB (bt (s.data.toList.drop a) 1) with
       | false=>rfl
       | true=>exact absurd (.inr ⟨h2,h45,h⟩) hn
      have q1:(bt (s.data.toList.drop a) 0 == 45)=true:=by simpa using h45
      clear hn h45
      generalize bt (s.data.toList.drop a) 0=b0 at *
      generalize bt (s.data.toList.drop a) 1=b1 at *
      go_wp2_with (go_at_call 293;refine (isDigit_any _ _).mono ?_;rintro e w' ⟨rfl,rfl⟩)
      refine bodyPost_ret (v:=(bad 11).v) (by simp [results,Tryz.results265,go_sem, *];rfl) rfl ⟨by rw[HE2.out],?_⟩
      simpa [go_sem] using HB3.out
     ·have q1:(bt (s.data.toList.drop a) 0 == 45)=false:=by simpa using h45
      clear hn h45 hb1
      generalize bt (s.data.toList.drop a) 0=b0 at *
      go_wp2_with (go_at_call 293;refine (isDigit_any _ _).mono ?_;rintro e w' ⟨rfl,rfl⟩)
      refine bodyPost_ret (v:=(bad 11).v) (by simp [results,Tryz.results265,go_sem, *];rfl) rfl ⟨by rw[HE2.out],?_⟩
      simpa [go_sem] using HB3.out
    ·have h2':(d.size:Int)<=1:=by omega
     clear hn h2
     generalize bt (s.data.toList.drop a) 0=b0 at *
     go_wp2_with (go_at_call 293;refine (isDigit_any _ _).mono ?_;rintro e w' ⟨rfl,rfl⟩)
     refine bodyPost_ret (v:=(bad 11).v) (by simp [results,Tryz.results265,go_sem, *];rfl) rfl ⟨by rw[HE2.out],?_⟩
     simpa [go_sem] using HB3.out
   ·have hne1:(!d.toList.isEmpty)=false:=by
     rw[ByteArray.toList_eq,HDL.out]
     have:=HDN.out
     cases h:s.data.toList.drop a with
     | nil=>rfl
     | cons _ _=>rw[h] at this;simp at this;omega
    have h2':(d.size:Int)<=1:=by omega
    clear hn hd0
    go_wp2_with (go_at_call 293;refine (isDigit_any _ _).mono ?_;rintro e w' ⟨rfl,rfl⟩)
    refine bodyPost_ret (v:=(bad 11).v) (by simp [results,Tryz.results265,go_sem, *];rfl) rfl ⟨by rw[HE2.out],?_⟩
    simpa [go_sem] using HB3.out
theorem scan_any (s:ByteArray) (a:Int) (w:World) (hs:s.size<=140737488355328) (hg:Glob w) :
 Calls Tryz.prog 265 #[.string s,.int .i64 a] w fun e w'=>e=.returned (scanR s.data.toList a).v/\Below w.heap.size w w':=by
 by_cases h:a<0∨(s.size:Int)<a
 ·exact scan_out s a w h
 ·obtain⟨n,rfl⟩:=Int.eq_ofNat_of_zero_le (show 0<=a by omega)
  exact scan_in s n w (by omega) (by omega) (by omega) hg
end Go.Proofs.YtgopfpjinohncaaGreatDoor
