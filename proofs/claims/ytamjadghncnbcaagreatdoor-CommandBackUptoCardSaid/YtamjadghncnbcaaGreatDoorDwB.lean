/- osierref09.SameAtom, Same, over the same: true. osierref10.alike, Same, at equal batches, walked. A command that can be read; osierref25.Same at commands of one content, walked; osierlaw25.of. -/
import Derived.Test.YtamjadghncnbcaaGreatDoorGmB
import Derived.Test.YtamjadghncnbcaaGreatDoorGgB
import Derived.Test.YtamjadghncnbcaaGreatDoorBcB
import Derived.Test.YtamjadghncnbcaaGreatDoorDaB
import Derived.Test.YtamjadghncnbcaaGreatDoorKfB
import Derived.Deep.RegionLaw
import Derived.Deep.RegionHeld3
namespace Go.Proofs.YtamjadghncnbcaaGreatDoor
open Go.RowKit
set_option linter.unusedVariables false
def KC (p q:Addr) (c:Chg) (rv ru:Value) (W0 W:World):Prop :=
 W.cell? p=some (.bool c.add)/\W.cell? ⟨p.block,p.off+1,none⟩=some (.string ⟨c.rel.toArray⟩)/\W.cell? ⟨p.block,p.off+2,none⟩=some rv /\
 W.cell? q=some (.bool c.add)/\W.cell? ⟨q.block,q.off+1,none⟩=some (.string ⟨c.rel.toArray⟩)/\W.cell? ⟨q.block,q.off+2,none⟩=some ru/\Below W0.heap.size W0 W
theorem KC.step {p q:Addr} {c:Chg} {rv ru:Value} {W0 W W':World} (h:KC p q c rv ru W0 W) (h1:p.block<W0.heap.size) (h2:q.block<W0.heap.size) (hb:Below W.heap.size W W'):KC p q c rv ru W0 W':=by
 obtain⟨k0,k1,k2,k3,k4,k5,k6⟩:=h
 have hz:=k6.size
 exact⟨(hb.cell (by omega)).trans k0,(hb.cell (p:=⟨p.block,p.off+1,none⟩) (by simp only;omega)).trans k1,(hb.cell (p:=⟨p.block,p.off+2,none⟩) (by simp only;omega)).trans k2,(hb.cell (by omega)).trans k3,(hb.cell (p:=⟨q.block,q.off+1,none⟩) (by simp only;omega)).trans k4,(hb.cell (p:=⟨q.block,q.off+2,none⟩) (by simp only;omega)).trans k5,k6.trans (hb.mono hz)⟩
def CmdAt (w:World) (cells:Array Value) (c:Cmd):Prop :=
 ∃ cv hv av bv rv,cells=#[.int .i64 c.kind,.string ⟨c.rel.name.toArray⟩,cv,.string ⟨c.q.name.toArray⟩,hv,av,bv,.string ⟨c.nm.toArray⟩,.int .i64 c.id,.int .i64 c.n,rv] /\
  RowAt w cv 2 (c.rel.cols.map Col.cells)/\StrsAt w hv c.q.head/\AtomsAt w av c.q.atoms/\ChgsAt w bv c.b/\RowAt w rv 3 (c.row.map Vl.cells)
structure SmallC (c:Cmd):Prop where
 cols:c.rel.cols.length<=5
 head:c.q.head.length<=200000
 atoms:c.q.atoms.length<=6
 terms:∀ a∈c.q.atoms,a.ts.length<=5
 b:c.b.length<=256
 rows:∀ x∈c.b,x.row.length<=1000000
 row:c.row.length<=200000
theorem AtomsOwn.at {B:Nat} {w:World} {v:Value} {al:List Atm} (h:AtomsOwn B w v al) (hl:al.length<=6) (ht:∀ a∈al,a.ts.length<=5):AtomsAt w v al:=by
 obtain⟨rows,h1,h2⟩:=h
 exact atomsRow (B:=B) h1 rfl h2 (by omega) (fun a ha=>by have:=ht a ha;omega)
theorem AtomsAt.nil (w:World):AtomsAt w (.slice none 0 0) []:=⟨[],RowAt.nil _ _,trivial⟩
theorem StrsAt.nil (w:World):StrsAt w (.slice none 0 0) []:=RowAt.nil _ _
theorem CmdOwn.at {B:Nat} {w:World} {cells:Array Value} {c:Cmd} (h:CmdOwn B w cells c) (hs:SmallC c):CmdAt w cells c:=by
 obtain⟨cv,hv,av,bv,rv,rfl,h1,h2,h3,h4,h5⟩:=h
 refine⟨cv,hv,av,bv,rv,rfl,?_,?_,h3.at hs.atoms hs.terms,h4.at (by have:=hs.b;omega) (fun x hx=>by have:=hs.rows x hx;omega),?_⟩
 ·exact ColsOwn.at h1 (by have:=hs.cols;omega)
 ·refine RowAt.ofOwn (base:=B) (e:=9) (n:=c.q.head.length) (by rw[strC_flat];exact h2) (by simp) ?_ (by have:=hs.head;simp;omega)
  intro x hx
  obtain⟨s,_,rfl⟩:=List.mem_map.1 hx
  rfl
 ·refine RowAt.ofOwn h5 (by simp) ?_ (by have:=hs.row;simp;omega)
  intro x hx
  obtain⟨s,_,rfl⟩:=List.mem_map.1 hx
  rfl
theorem CmdAt.keep {w w':World} {cells:Array Value} {c:Cmd} (h:CmdAt w cells c) (hb:Below w.heap.size w w'):CmdAt w' cells c:=by
 obtain⟨cv,hv,av,bv,rv,rfl,h1,h2,h3,h4,h5⟩:=h
 exact⟨cv,hv,av,bv,rv,rfl,h1.keep hb,h2.keep hb,h3.keep hb,h4.keep hb,h5.keep hb⟩
set_option maxHeartbeats 2000000 in
set_option maxRecDepth 100000 in
theorem of_any (w:World) (k i n:Int) (x1 x2 x3:ByteArray) (o1 o2 o3 o4 o5:Option Addr) (l1 d1 l2 d2 l3 d3 l4 d4 l5 d5:Nat) :
 Calls Tryz.prog 17 #[.agg #[.int .i64 k,.string x1,.slice o1 l1 d1,.string x2,.slice o2 l2 d2,.slice o3 l3 d3,.slice o4 l4 d4,.string x3,.int .i64 i,.int .i64 n,.slice o5 l5 d5]] w fun e w'=>e=.returned (.agg #[.int .i64 k,.string x1,.slice o1 l1 d1,.string x2,.slice o2 l2 d2,.slice o3 l3 d3,.slice o4 l4 d4,.string x3,.int .i64 i,.int .i64 n,.slice o5 l5 d5])/\Below w.heap.size w w':=by
 have hb0:Below w.heap.size w ((w.alloc (.cells #[.int .i64 k,.string x1,.slice o1 l1 d1,.string x2,.slice o2 l2 d2,.slice o3 l3 d3,.slice o4 l4 d4,.string x3,.int .i64 i,.int .i64 n,.slice o5 l5 d5] 34)).alloc (.cells #[.int .i64 0,.string ⟨#[]⟩,.slice none 0 0,.string ⟨#[]⟩,.slice none 0 0,.slice none 0 0,.slice none 0 0,.string ⟨#[]⟩,.int .i64 0,.int .i64 0,.slice none 0 0] 39)):=balloc (balloc (Below.refl _ _) _) _
 have hz:=blkNew1 w (.cells #[.int .i64 k,.string x1,.slice o1 l1 d1,.string x2,.slice o2 l2 d2,.slice o3 l3 d3,.slice o4 l4 d4,.string x3,.int .i64 i,.int .i64 n,.slice o5 l5 d5] 34) 39 #[.int .i64 0,.string ⟨#[]⟩,.slice none 0 0,.string ⟨#[]⟩,.slice none 0 0,.slice none 0 0,.slice none 0 0,.string ⟨#[]⟩,.int .i64 0,.int .i64 0,.slice none 0 0]
 have hq:=(Blk.new w 34 #[.int .i64 k,.string x1,.slice o1 l1 d1,.string x2,.slice o2 l2 d2,.slice o3 l3 d3,.slice o4 l4 d4,.string x3,.int .i64 i,.int .i64 n,.slice o5 l5 d5]).alloc (.cells #[.int .i64 0,.string ⟨#[]⟩,.slice none 0 0,.string ⟨#[]⟩,.slice none 0 0,.slice none 0 0,.slice none 0 0,.string ⟨#[]⟩,.int .i64 0,.int .i64 0,.slice none 0 0] 39)
 obtain⟨W0,hW0⟩:∃ W0,((w.alloc (.cells #[.int .i64 k,.string x1,.slice o1 l1 d1,.string x2,.slice o2 l2 d2,.slice o3 l3 d3,.slice o4 l4 d4,.string x3,.int .i64 i,.int .i64 n,.slice o5 l5 d5] 34)).alloc (.cells #[.int .i64 0,.string ⟨#[]⟩,.slice none 0 0,.string ⟨#[]⟩,.slice none 0 0,.slice none 0 0,.slice none 0 0,.string ⟨#[]⟩,.int .i64 0,.int .i64 0,.slice none 0 0] 39))=W0:=⟨_,rfl⟩
 rw[hW0] at hb0 hz hq
 have k0:=hq.cell 0
 have k1:=hq.cell 1
 have k2:=hq.cell 2
 have k3:=hq.cell 3
 have k4:=hq.cell 4
 have k5:=hq.cell 5
 have k6:=hq.cell 6
 have k7:=hq.cell 7
 have k8:=hq.cell 8
 have k9:=hq.cell 9
 have k10:=hq.cell 10
 have kl:=hq.lt
 simp only[List.getElem?_toArray,List.getElem?_cons_zero,List.getElem?_cons_succ] at k0 k1 k2 k3 k4 k5 k6 k7 k8 k9 k10
 have HB0:=Lib.hid hb0
 have HZ:=Lib.hid hz
 have HW0:=Lib.hid hW0
 clear hb0 hz hq hW0
 go_enter Tryz.func17,Tryz.ntmps17
 go_upto_region 1 with fail
 rw[HW0.out]
 go_wp2_with (refine wpList_store_blk rfl 39 _ _ rfl (w.heap.size+1) 39 _ _ rfl rfl HZ.out (by kernel_rfl) rfl (by simp [Value.oneCell']) ?_)
 intro w4 hb4 hm4 hz4
 clear k0 k1 k2 k3 k4 k5 k6 k7 k8 k9 k10 kl
 have r0:=hb4.cell 0
 have r1:=hb4.cell 1
 have r2:=hb4.cell 2
 have r3:=hb4.cell 3
 have r4:=hb4.cell 4
 have r5:=hb4.cell 5
 have r6:=hb4.cell 6
 have r7:=hb4.cell 7
 have r8:=hb4.cell 8
 have r9:=hb4.cell 9
 have r10:=hb4.cell 10
 simp only[List.getElem?_toArray,List.getElem?_cons_zero,List.getElem?_cons_succ] at r0 r1 r2 r3 r4 r5 r6 r7 r8 r9 r10
 have HP:=Lib.hid (HB0.out.trans ((MT.ofMod (Ts:=[39]) hm4 HZ.out (by simp) (by omega:w.heap.size<=w.heap.size+1)).below HB0.out.size))
 clear hb4 hm4 hz4
 go_wp2_with fail
 exact bodyPost_ret (v:=.agg #[.int .i64 k,.string x1,.slice o1 l1 d1,.string x2,.slice o2 l2 d2,.slice o3 l3 d3,.slice o4 l4 d4,.string x3,.int .i64 i,.int .i64 n,.slice o5 l5 d5]) (by simp [results,Tryz.results17,go_sem, *]) rfl ⟨rfl,HP.out⟩
theorem CmdAt.form {w:World} {cells:Array Value} {c:Cmd} (h:CmdAt w cells c):∃ (x1 x2 x3:ByteArray) (o1 o2 o3 o4 o5:Option Addr) (l1 d1 l2 d2 l3 d3 l4 d4 l5 d5:Nat),cells=#[.int .i64 c.kind,.string x1,.slice o1 l1 d1,.string x2,.slice o2 l2 d2,.slice o3 l3 d3,.slice o4 l4 d4,.string x3,.int .i64 c.id,.int .i64 c.n,.slice o5 l5 d5]:=by
 obtain⟨cv,hv,av,bv,rv,rfl,h1,h2,h3,h4,h5⟩:=h
 obtain⟨o1,d1,rfl,_,_⟩:=h1.form
 obtain⟨o2,d2,rfl,_,_⟩:=h2.form
 obtain⟨o3,d3,rfl,_,_⟩:=h3.form
 obtain⟨o4,d4,rfl,_,_⟩:=h4.form
 obtain⟨o5,d5,rfl,_,_⟩:=h5.form
 exact⟨_,_,_,_,_,_,_,_,_,_,_,_,_,_,_,_,_,_,rfl⟩
end Go.Proofs.YtamjadghncnbcaaGreatDoor
