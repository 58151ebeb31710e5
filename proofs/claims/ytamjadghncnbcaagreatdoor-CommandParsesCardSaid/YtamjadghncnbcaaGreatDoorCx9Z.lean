/- CommandParses, walked; osierlaw25.of. -/
import Derived.Test.YtamjadghncnbcaaGreatDoorDt
import Derived.Test.YtamjadghncnbcaaGreatDoorDx
import Derived.Deep.RegionHeld3
namespace Go.Proofs.YtamjadghncnbcaaGreatDoor
open Go.RowKit
set_option linter.unusedVariables false
set_option maxHeartbeats 4000000 in
set_option maxRecDepth 100000 in
theorem cmdparses_law (s:ByteArray) (w:World) (hs:s.size<=140737488351232) (hg:GlobW w) :
 Calls Tryz.prog 3 #[.string s] w fun e w'=>e=.returned (.bool true)/\Below w.heap.size w w':=by
 obtain⟨c,a,f,hcf⟩:∃ (c:Cmd) (a f:Int),∀ (w:World) (e:Ending) (w':World),CmdPost w (cmdT s.data.toList) e w'->∃ cells,e=.returned (.tuple #[.agg cells,.int .i64 a,.int .i64 f])/\CmdAt w' cells c/\Below w.heap.size w w':=by
  cases hq:cmdT s.data.toList with
  | bad a f=>exact⟨cmd0,a,f,fun w e w' h=>⟨_,h.1,cmd_nil _,h.2⟩⟩
  | ok c r =>
    refine⟨c,0,0,fun w e w' h=>?_⟩
    obtain⟨cells,rfl,ho,hb⟩:=h
    exact⟨_,rfl,ho.at (cmdT_small hq),hb⟩
 have hp:=(cmd_any s w (by omega) hg).mono (hcf w)
 have hr:=fun W (hW:Below w.heap.size w W)=>(ref25_any s W (by omega) (hg.below hW).g).mono (hcf W)
 have HP:=Lib.hid hp
 have HR:=Lib.hid hr
 have HA:=Lib.hid (fun W (hW:Below w.heap.size w W)=>awake25 W (hg.below hW))
 clear hp hr hg hcf
 go_enter Tryz.func3,Tryz.ntmps3
 go_wp2_with fail
 refine HP.out.mono ?_
 rintro e w1 ⟨ca,rfl,hat,hb1⟩
 obtain⟨x1,x2,x3,o1,o2,o3,o4,o5,l1,d1,l2,d2,l3,d3,l4,d4,l5,d5,rfl⟩:=hat.form
 have hb1a:=balloc hb1 (.cells #[.int .i64 c.kind,.string x1,.slice o1 l1 d1,.string x2,.slice o2 l2 d2,.slice o3 l3 d3,.slice o4 l4 d4,.string x3,.int .i64 c.id,.int .i64 c.n,.slice o5 l5 d5] 34)
 have hq1:=Blk.new w1 34 #[.int .i64 c.kind,.string x1,.slice o1 l1 d1,.string x2,.slice o2 l2 d2,.slice o3 l3 d3,.slice o4 l4 d4,.string x3,.int .i64 c.id,.int .i64 c.n,.slice o5 l5 d5]
 have hat1:=hat.keep (balloc (Below.refl w1.heap.size w1) (.cells #[.int .i64 c.kind,.string x1,.slice o1 l1 d1,.string x2,.slice o2 l2 d2,.slice o3 l3 d3,.slice o4 l4 d4,.string x3,.int .i64 c.id,.int .i64 c.n,.slice o5 l5 d5] 34))
 have HB1:=Lib.hid hb1a
 have HQ1:=Lib.hid hq1
 have HT1:=Lib.hid hat1
 have HR1:=Lib.hid (HR.out _ hb1a)
 clear hat hb1 hb1a hq1 hat1 HP HR
 go_wp2_with fail
 refine HR1.out.mono ?_
 rintro e w2 ⟨cb,rfl,hat,hb2⟩
 obtain⟨y1,y2,y3,p1,p2,p3,p4,p5,m1,e1,m2,e2,m3,e3,m4,e4,m5,e5,rfl⟩:=hat.form
 have bk:Below w2.heap.size w2 (w2.alloc (.cells #[.int .i64 c.kind,.string y1,.slice p1 m1 e1,.string y2,.slice p2 m2 e2,.slice p3 m3 e3,.slice p4 m4 e4,.string y3,.int .i64 c.id,.int .i64 c.n,.slice p5 m5 e5] 39)):=balloc (Below.refl _ _) _
 have hq2:=Blk.new w2 39 #[.int .i64 c.kind,.string y1,.slice p1 m1 e1,.string y2,.slice p2 m2 e2,.slice p3 m3 e3,.slice p4 m4 e4,.string y3,.int .i64 c.id,.int .i64 c.n,.slice p5 m5 e5]
 have hbb:=HB1.out.trans (hb2.mono HB1.out.size)
 have hq1:=(HQ1.out.below hb2 HQ1.out.lt).below bk (Nat.lt_of_lt_of_le HQ1.out.lt hb2.size)
 have ht1:=(HT1.out.keep hb2).keep bk
 have ht2:=hat.keep bk
 have hbw:=hbb.trans (bk.mono hbb.size)
 obtain⟨W0,hW0⟩:∃ W0,w2.alloc (.cells #[.int .i64 c.kind,.string y1,.slice p1 m1 e1,.string y2,.slice p2 m2 e2,.slice p3 m3 e3,.slice p4 m4 e4,.string y3,.int .i64 c.id,.int .i64 c.n,.slice p5 m5 e5] 39)=W0:=⟨_,rfl⟩
 rw[hW0] at hq2 hq1 ht1 ht2 hbw
 have HW0:=Lib.hid hW0
 have HBW:=Lib.hid hbw
 have lq1:=hq1.lt
 have lq2:=hq2.lt
 have f0:=hq1.cell 0
 have g0:=hq2.cell 0
 have f1:=hq1.cell 1
 have g1:=hq2.cell 1
 have f2:=hq1.cell 2
 have g2:=hq2.cell 2
 have f3:=hq1.cell 3
 have g3:=hq2.cell 3
 have f4:=hq1.cell 4
 have g4:=hq2.cell 4
 have f5:=hq1.cell 5
 have g5:=hq2.cell 5
 have f6:=hq1.cell 6
 have g6:=hq2.cell 6
 have f7:=hq1.cell 7
 have g7:=hq2.cell 7
 have f8:=hq1.cell 8
 have g8:=hq2.cell 8
 have f9:=hq1.cell 9
 have g9:=hq2.cell 9
 have f10:=hq1.cell 10
 have g10:=hq2.cell 10
 simp only[List.getElem?_toArray,List.getElem?_cons_zero,List.getElem?_cons_succ] at f0 g0 f1 g1 f2 g2 f3 g3 f4 g4 f5 g5 f6 g6 f7 g7 f8 g8 f9 g9 f10 g10
 obtain⟨n1,hn1⟩:∃ n1,w1.heap.size=n1:=⟨_,rfl⟩
 obtain⟨n2,hn2⟩:∃ n2,w2.heap.size=n2:=⟨_,rfl⟩
 rw[hn1] at hq1 lq1 f0 f1 f2 f3 f4 f5 f6 f7 f8 f9 f10
 rw[hn2] at hq2 lq2 g0 g1 g2 g3 g4 g5 g6 g7 g8 g9 g10
 have hst:∀ W W':World,W.cell? ⟨n1,0,none⟩=some (.int .i64 c.kind)/\W.cell? ⟨n1,1,none⟩=some (.string x1)/\W.cell? ⟨n1,2,none⟩=some (.slice o1 l1 d1)/\W.cell? ⟨n1,3,none⟩=some (.string x2)/\W.cell? ⟨n1,4,none⟩=some (.slice o2 l2 d2)/\W.cell? ⟨n1,5,none⟩=some (.slice o3 l3 d3)/\W.cell? ⟨n1,6,none⟩=some (.slice o4 l4 d4)/\W.cell? ⟨n1,7,none⟩=some (.string x3)/\W.cell? ⟨n1,8,none⟩=some (.int .i64 c.id)/\W.cell? ⟨n1,9,none⟩=some (.int .i64 c.n)/\W.cell? ⟨n1,10,none⟩=some (.slice o5 l5 d5)/\W.cell? ⟨n2,0,none⟩=some (.int .i64 c.kind)/\W.cell? ⟨n2,1,none⟩=some (.string y1)/\W.cell? ⟨n2,2,none⟩=some (.slice p1 m1 e1)/\W.cell? ⟨n2,3,none⟩=some (.string y2)/\W.cell? ⟨n2,4,none⟩=some (.slice p2 m2 e2)/\W.cell? ⟨n2,5,none⟩=some (.slice p3 m3 e3)/\W.cell? ⟨n2,6,none⟩=some (.slice p4 m4 e4)/\W.cell? ⟨n2,7,none⟩=some (.string y3)/\W.cell? ⟨n2,8,none⟩=some (.int .i64 c.id)/\W.cell? ⟨n2,9,none⟩=some (.int .i64 c.n)/\W.cell? ⟨n2,10,none⟩=some (.slice p5 m5 e5)/\Below W0.heap.size W0 W->Below W.heap.size W W'->W'.cell? ⟨n1,0,none⟩=some (.int .i64 c.kind)/\W'.cell? ⟨n1,1,none⟩=some (.string x1)/\W'.cell? ⟨n1,2,none⟩=some (.slice o1 l1 d1)/\W'.cell? ⟨n1,3,none⟩=some (.string x2)/\W'.cell? ⟨n1,4,none⟩=some (.slice o2 l2 d2)/\W'.cell? ⟨n1,5,none⟩=some (.slice o3 l3 d3)/\W'.cell? ⟨n1,6,none⟩=some (.slice o4 l4 d4)/\W'.cell? ⟨n1,7,none⟩=some (.string x3)/\W'.cell? ⟨n1,8,none⟩=some (.int .i64 c.id)/\W'.cell? ⟨n1,9,none⟩=some (.int .i64 c.n)/\W'.cell? ⟨n1,10,none⟩=some (.slice o5 l5 d5)/\W'.cell? ⟨n2,0,none⟩=some (.int .i64 c.kind)/\W'.cell? ⟨n2,1,none⟩=some (.string y1)/\W'.cell? ⟨n2,2,none⟩=some (.slice p1 m1 e1)/\W'.cell? ⟨n2,3,none⟩=some (.string y2)/\W'.cell? ⟨n2,4,none⟩=some (.slice p2 m2 e2)/\W'.cell? ⟨n2,5,none⟩=some (.slice p3 m3 e3)/\W'.cell? ⟨n2,6,none⟩=some (.slice p4 m4 e4)/\W'.cell? ⟨n2,7,none⟩=some (.string y3)/\W'.cell? ⟨n2,8,none⟩=some (.int .i64 c.id)/\W'.cell? ⟨n2,9,none⟩=some (.int .i64 c.n)/\W'.cell? ⟨n2,10,none⟩=some (.slice p5 m5 e5)/\Below W0.heap.size W0 W':=by
  rintro W W' ⟨q0,q1,q2,q3,q4,q5,q6,q7,q8,q9,q10,q11,q12,q13,q14,q15,q16,q17,q18,q19,q20,q21,q22⟩ hb
  have hz:=q22.size
  exact⟨(hb.cell (p:=⟨n1,0,none⟩) (by simp only;omega)).trans q0,(hb.cell (p:=⟨n1,1,none⟩) (by simp only;omega)).trans q1,(hb.cell (p:=⟨n1,2,none⟩) (by simp only;omega)).trans q2,(hb.cell (p:=⟨n1,3,none⟩) (by simp only;omega)).trans q3,(hb.cell (p:=⟨n1,4,none⟩) (by simp only;omega)).trans q4,(hb.cell (p:=⟨n1,5,none⟩) (by simp only;omega)).trans q5,(hb.cell (p:=⟨n1,6,none⟩) (by simp only;omega)).trans q6,(hb.cell (p:=⟨n1,7,none⟩) (by simp only;omega)).trans q7,(hb.cell (p:=⟨n1,8,none⟩) (by simp only;omega)).trans q8,(hb.cell (p:=⟨n1,9,none⟩) (by simp only;omega)).trans q9,(hb.cell (p:=⟨n1,10,none⟩) (by simp only;omega)).trans q10,(hb.cell (p:=⟨n2,0,none⟩) (by simp only;omega)).trans q11,(hb.cell (p:=⟨n2,1,none⟩) (by simp only;omega)).trans q12,(hb.cell (p:=⟨n2,2,none⟩) (by simp only;omega)).trans q13,(hb.cell (p:=⟨n2,3,none⟩) (by simp only;omega)).trans q14,(hb.cell (p:=⟨n2,4,none⟩) (by simp only;omega)).trans q15,(hb.cell (p:=⟨n2,5,none⟩) (by simp only;omega)).trans q16,(hb.cell (p:=⟨n2,6,none⟩) (by simp only;omega)).trans q17,(hb.cell (p:=⟨n2,7,none⟩) (by simp only;omega)).trans q18,(hb.cell (p:=⟨n2,8,none⟩) (by simp only;omega)).trans q19,(hb.cell (p:=⟨n2,9,none⟩) (by simp only;omega)).trans q20,(hb.cell (p:=⟨n2,10,none⟩) (by simp only;omega)).trans q21,q22.trans (hb.mono hz)⟩
 have HAW:Hid (∀ W,W.cell? ⟨n1,0,none⟩=some (.int .i64 c.kind)/\W.cell? ⟨n1,1,none⟩=some (.string x1)/\W.cell? ⟨n1,2,none⟩=some (.slice o1 l1 d1)/\W.cell? ⟨n1,3,none⟩=some (.string x2)/\W.cell? ⟨n1,4,none⟩=some (.slice o2 l2 d2)/\W.cell? ⟨n1,5,none⟩=some (.slice o3 l3 d3)/\W.cell? ⟨n1,6,none⟩=some (.slice o4 l4 d4)/\W.cell? ⟨n1,7,none⟩=some (.string x3)/\W.cell? ⟨n1,8,none⟩=some (.int .i64 c.id)/\W.cell? ⟨n1,9,none⟩=some (.int .i64 c.n)/\W.cell? ⟨n1,10,none⟩=some (.slice o5 l5 d5)/\W.cell? ⟨n2,0,none⟩=some (.int .i64 c.kind)/\W.cell? ⟨n2,1,none⟩=some (.string y1)/\W.cell? ⟨n2,2,none⟩=some (.slice p1 m1 e1)/\W.cell? ⟨n2,3,none⟩=some (.string y2)/\W.cell? ⟨n2,4,none⟩=some (.slice p2 m2 e2)/\W.cell? ⟨n2,5,none⟩=some (.slice p3 m3 e3)/\W.cell? ⟨n2,6,none⟩=some (.slice p4 m4 e4)/\W.cell? ⟨n2,7,none⟩=some (.string y3)/\W.cell? ⟨n2,8,none⟩=some (.int .i64 c.id)/\W.cell? ⟨n2,9,none⟩=some (.int .i64 c.n)/\W.cell? ⟨n2,10,none⟩=some (.slice p5 m5 e5)/\Below W0.heap.size W0 W->Calls Tryz.prog 15 #[] W fun e w'=>e=.returned (.bool true)/\(w'.cell? ⟨n1,0,none⟩=some (.int .i64 c.kind)/\w'.cell? ⟨n1,1,none⟩=some (.string x1)/\w'.cell? ⟨n1,2,none⟩=some (.slice o1 l1 d1)/\w'.cell? ⟨n1,3,none⟩=some (.string x2)/\w'.cell? ⟨n1,4,none⟩=some (.slice o2 l2 d2)/\w'.cell? ⟨n1,5,none⟩=some (.slice o3 l3 d3)/\w'.cell? ⟨n1,6,none⟩=some (.slice o4 l4 d4)/\w'.cell? ⟨n1,7,none⟩=some (.string x3)/\w'.cell? ⟨n1,8,none⟩=some (.int .i64 c.id)/\w'.cell? ⟨n1,9,none⟩=some (.int .i64 c.n)/\w'.cell? ⟨n1,10,none⟩=some (.slice o5 l5 d5)/\w'.cell? ⟨n2,0,none⟩=some (.int .i64 c.kind)/\w'.cell? ⟨n2,1,none⟩=some (.string y1)/\w'.cell? ⟨n2,2,none⟩=some (.slice p1 m1 e1)/\w'.cell? ⟨n2,3,none⟩=some (.string y2)/\w'.cell? ⟨n2,4,none⟩=some (.slice p2 m2 e2)/\w'.cell? ⟨n2,5,none⟩=some (.slice p3 m3 e3)/\w'.cell? ⟨n2,6,none⟩=some (.slice p4 m4 e4)/\w'.cell? ⟨n2,7,none⟩=some (.string y3)/\w'.cell? ⟨n2,8,none⟩=some (.int .i64 c.id)/\w'.cell? ⟨n2,9,none⟩=some (.int .i64 c.n)/\w'.cell? ⟨n2,10,none⟩=some (.slice p5 m5 e5)/\Below W0.heap.size W0 w')):=Lib.hid fun W hW=>(HA.out W (hbw.trans ((hW.2.2.2.2.2.2.2.2.2.2.2.2.2.2.2.2.2.2.2.2.2.2).mono hbw.size))).mono fun e w' h=>⟨h.1,hst _ _ hW h.2⟩
 have HOF:Hid (∀ W,W.cell? ⟨n1,0,none⟩=some (.int .i64 c.kind)/\W.cell? ⟨n1,1,none⟩=some (.string x1)/\W.cell? ⟨n1,2,none⟩=some (.slice o1 l1 d1)/\W.cell? ⟨n1,3,none⟩=some (.string x2)/\W.cell? ⟨n1,4,none⟩=some (.slice o2 l2 d2)/\W.cell? ⟨n1,5,none⟩=some (.slice o3 l3 d3)/\W.cell? ⟨n1,6,none⟩=some (.slice o4 l4 d4)/\W.cell? ⟨n1,7,none⟩=some (.string x3)/\W.cell? ⟨n1,8,none⟩=some (.int .i64 c.id)/\W.cell? ⟨n1,9,none⟩=some (.int .i64 c.n)/\W.cell? ⟨n1,10,none⟩=some (.slice o5 l5 d5)/\W.cell? ⟨n2,0,none⟩=some (.int .i64 c.kind)/\W.cell? ⟨n2,1,none⟩=some (.string y1)/\W.cell? ⟨n2,2,none⟩=some (.slice p1 m1 e1)/\W.cell? ⟨n2,3,none⟩=some (.string y2)/\W.cell? ⟨n2,4,none⟩=some (.slice p2 m2 e2)/\W.cell? ⟨n2,5,none⟩=some (.slice p3 m3 e3)/\W.cell? ⟨n2,6,none⟩=some (.slice p4 m4 e4)/\W.cell? ⟨n2,7,none⟩=some (.string y3)/\W.cell? ⟨n2,8,none⟩=some (.int .i64 c.id)/\W.cell? ⟨n2,9,none⟩=some (.int .i64 c.n)/\W.cell? ⟨n2,10,none⟩=some (.slice p5 m5 e5)/\Below W0.heap.size W0 W->Calls Tryz.prog 17 #[.agg #[.int .i64 c.kind,.string x1,.slice o1 l1 d1,.string x2,.slice o2 l2 d2,.slice o3 l3 d3,.slice o4 l4 d4,.string x3,.int .i64 c.id,.int .i64 c.n,.slice o5 l5 d5]] W fun e w'=>e=.returned (.agg #[.int .i64 c.kind,.string x1,.slice o1 l1 d1,.string x2,.slice o2 l2 d2,.slice o3 l3 d3,.slice o4 l4 d4,.string x3,.int .i64 c.id,.int .i64 c.n,.slice o5 l5 d5])/\(w'.cell? ⟨n1,0,none⟩=some (.int .i64 c.kind)/\w'.cell? ⟨n1,1,none⟩=some (.string x1)/\w'.cell? ⟨n1,2,none⟩=some (.slice o1 l1 d1)/\w'.cell? ⟨n1,3,none⟩=some (.string x2)/\w'.cell? ⟨n1,4,none⟩=some (.slice o2 l2 d2)/\w'.cell? ⟨n1,5,none⟩=some (.slice o3 l3 d3)/\w'.cell? ⟨n1,6,none⟩=some (.slice o4 l4 d4)/\w'.cell? ⟨n1,7,none⟩=some (.string x3)/\w'.cell? ⟨n1,8,none⟩=some (.int .i64 c.id)/\w'.cell? ⟨n1,9,none⟩=some (.int .i64 c.n)/\w'.cell? ⟨n1,10,none⟩=some (.slice o5 l5 d5)/\w'.cell? ⟨n2,0,none⟩=some (.int .i64 c.kind)/\w'.cell? ⟨n2,1,none⟩=some (.string y1)/\w'.cell? ⟨n2,2,none⟩=some (.slice p1 m1 e1)/\w'.cell? ⟨n2,3,none⟩=some (.string y2)/\w'.cell? ⟨n2,4,none⟩=some (.slice p2 m2 e2)/\w'.cell? ⟨n2,5,none⟩=some (.slice p3 m3 e3)/\w'.cell? ⟨n2,6,none⟩=some (.slice p4 m4 e4)/\w'.cell? ⟨n2,7,none⟩=some (.string y3)/\w'.cell? ⟨n2,8,none⟩=some (.int .i64 c.id)/\w'.cell? ⟨n2,9,none⟩=some (.int .i64 c.n)/\w'.cell? ⟨n2,10,none⟩=some (.slice p5 m5 e5)/\Below W0.heap.size W0 w')):=Lib.hid fun W hW=>(of_any W _ _ _ _ _ _ _ _ _ _ _ _ _ _ _ _ _ _ _ _ _).mono fun e w' h=>⟨h.1,hst _ _ hW h.2⟩
 have HSM:Hid (∀ W,W.cell? ⟨n1,0,none⟩=some (.int .i64 c.kind)/\W.cell? ⟨n1,1,none⟩=some (.string x1)/\W.cell? ⟨n1,2,none⟩=some (.slice o1 l1 d1)/\W.cell? ⟨n1,3,none⟩=some (.string x2)/\W.cell? ⟨n1,4,none⟩=some (.slice o2 l2 d2)/\W.cell? ⟨n1,5,none⟩=some (.slice o3 l3 d3)/\W.cell? ⟨n1,6,none⟩=some (.slice o4 l4 d4)/\W.cell? ⟨n1,7,none⟩=some (.string x3)/\W.cell? ⟨n1,8,none⟩=some (.int .i64 c.id)/\W.cell? ⟨n1,9,none⟩=some (.int .i64 c.n)/\W.cell? ⟨n1,10,none⟩=some (.slice o5 l5 d5)/\W.cell? ⟨n2,0,none⟩=some (.int .i64 c.kind)/\W.cell? ⟨n2,1,none⟩=some (.string y1)/\W.cell? ⟨n2,2,none⟩=some (.slice p1 m1 e1)/\W.cell? ⟨n2,3,none⟩=some (.string y2)/\W.cell? ⟨n2,4,none⟩=some (.slice p2 m2 e2)/\W.cell? ⟨n2,5,none⟩=some (.slice p3 m3 e3)/\W.cell? ⟨n2,6,none⟩=some (.slice p4 m4 e4)/\W.cell? ⟨n2,7,none⟩=some (.string y3)/\W.cell? ⟨n2,8,none⟩=some (.int .i64 c.id)/\W.cell? ⟨n2,9,none⟩=some (.int .i64 c.n)/\W.cell? ⟨n2,10,none⟩=some (.slice p5 m5 e5)/\Below W0.heap.size W0 W->Calls Tryz.prog 16 #[.agg #[.int .i64 c.kind,.string x1,.slice o1 l1 d1,.string x2,.slice o2 l2 d2,.slice o3 l3 d3,.slice o4 l4 d4,.string x3,.int .i64 c.id,.int .i64 c.n,.slice o5 l5 d5],.agg #[.int .i64 c.kind,.string y1,.slice p1 m1 e1,.string y2,.slice p2 m2 e2,.slice p3 m3 e3,.slice p4 m4 e4,.string y3,.int .i64 c.id,.int .i64 c.n,.slice p5 m5 e5]] W fun e w'=>e=.returned (.bool true)/\(w'.cell? ⟨n1,0,none⟩=some (.int .i64 c.kind)/\w'.cell? ⟨n1,1,none⟩=some (.string x1)/\w'.cell? ⟨n1,2,none⟩=some (.slice o1 l1 d1)/\w'.cell? ⟨n1,3,none⟩=some (.string x2)/\w'.cell? ⟨n1,4,none⟩=some (.slice o2 l2 d2)/\w'.cell? ⟨n1,5,none⟩=some (.slice o3 l3 d3)/\w'.cell? ⟨n1,6,none⟩=some (.slice o4 l4 d4)/\w'.cell? ⟨n1,7,none⟩=some (.string x3)/\w'.cell? ⟨n1,8,none⟩=some (.int .i64 c.id)/\w'.cell? ⟨n1,9,none⟩=some (.int .i64 c.n)/\w'.cell? ⟨n1,10,none⟩=some (.slice o5 l5 d5)/\w'.cell? ⟨n2,0,none⟩=some (.int .i64 c.kind)/\w'.cell? ⟨n2,1,none⟩=some (.string y1)/\w'.cell? ⟨n2,2,none⟩=some (.slice p1 m1 e1)/\w'.cell? ⟨n2,3,none⟩=some (.string y2)/\w'.cell? ⟨n2,4,none⟩=some (.slice p2 m2 e2)/\w'.cell? ⟨n2,5,none⟩=some (.slice p3 m3 e3)/\w'.cell? ⟨n2,6,none⟩=some (.slice p4 m4 e4)/\w'.cell? ⟨n2,7,none⟩=some (.string y3)/\w'.cell? ⟨n2,8,none⟩=some (.int .i64 c.id)/\w'.cell? ⟨n2,9,none⟩=some (.int .i64 c.n)/\w'.cell? ⟨n2,10,none⟩=some (.slice p5 m5 e5)/\Below W0.heap.size W0 w')):=Lib.hid fun W hW=>(sameCmd_any W _ _ c (ht1.keep (hW.2.2.2.2.2.2.2.2.2.2.2.2.2.2.2.2.2.2.2.2.2.2)) (ht2.keep (hW.2.2.2.2.2.2.2.2.2.2.2.2.2.2.2.2.2.2.2.2.2.2))).mono fun e w' h=>⟨h.1,hst _ _ hW h.2⟩
 have k1:(a == a)=true:=by simp
 have k2:(f == f)=true:=by simp
 clear hst ht1 ht2 hbw hbb bk hat hb2 hq1 hq2 HA HT1 HQ1 HR1 HB1
 go_upto_region 3 with fail
 first | rw[HW0.out] | skip
 first | rw[hn1] | skip
 first | rw[hn2] | skip
 clear hn1 hn2 HW0 hW0
 go_region_held3 (fun w'=>w'.cell? ⟨n1,0,none⟩=some (.int .i64 c.kind)/\w'.cell? ⟨n1,1,none⟩=some (.string x1)/\w'.cell? ⟨n1,2,none⟩=some (.slice o1 l1 d1)/\w'.cell? ⟨n1,3,none⟩=some (.string x2)/\w'.cell? ⟨n1,4,none⟩=some (.slice o2 l2 d2)/\w'.cell? ⟨n1,5,none⟩=some (.slice o3 l3 d3)/\w'.cell? ⟨n1,6,none⟩=some (.slice o4 l4 d4)/\w'.cell? ⟨n1,7,none⟩=some (.string x3)/\w'.cell? ⟨n1,8,none⟩=some (.int .i64 c.id)/\w'.cell? ⟨n1,9,none⟩=some (.int .i64 c.n)/\w'.cell? ⟨n1,10,none⟩=some (.slice o5 l5 d5)/\w'.cell? ⟨n2,0,none⟩=some (.int .i64 c.kind)/\w'.cell? ⟨n2,1,none⟩=some (.string y1)/\w'.cell? ⟨n2,2,none⟩=some (.slice p1 m1 e1)/\w'.cell? ⟨n2,3,none⟩=some (.string y2)/\w'.cell? ⟨n2,4,none⟩=some (.slice p2 m2 e2)/\w'.cell? ⟨n2,5,none⟩=some (.slice p3 m3 e3)/\w'.cell? ⟨n2,6,none⟩=some (.slice p4 m4 e4)/\w'.cell? ⟨n2,7,none⟩=some (.string y3)/\w'.cell? ⟨n2,8,none⟩=some (.int .i64 c.id)/\w'.cell? ⟨n2,9,none⟩=some (.int .i64 c.n)/\w'.cell? ⟨n2,10,none⟩=some (.slice p5 m5 e5)/\Below W0.heap.size W0 w')
  (first | exact hK | (go_split_ands;refine⟨?_,?_,?_,?_,?_,?_,?_,?_,?_,?_,?_,?_,?_,?_,?_,?_,?_,?_,?_,?_,?_,?_,?_⟩<;>first | exact bdrew (by assumption) | exact bdrew (Below.refl _ _) | assumption | go_keep))
  (first
    | (go_at_call 15;go_split_ands;refine (HAW.out _ ⟨by assumption,by assumption,by assumption,by assumption,by assumption,by assumption,by assumption,by assumption,by assumption,by assumption,by assumption,by assumption,by assumption,by assumption,by assumption,by assumption,by assumption,by assumption,by assumption,by assumption,by assumption,by assumption,by assumption⟩).mono ?_;rintro e w' ⟨rfl,hK⟩)
    | (go_at_call 17;go_split_ands;refine (HOF.out _ ⟨by assumption,by assumption,by assumption,by assumption,by assumption,by assumption,by assumption,by assumption,by assumption,by assumption,by assumption,by assumption,by assumption,by assumption,by assumption,by assumption,by assumption,by assumption,by assumption,by assumption,by assumption,by assumption,by assumption⟩).mono ?_;rintro e w' ⟨rfl,hK⟩)
    | (go_at_call 16;go_split_ands;refine (HSM.out _ ⟨by assumption,by assumption,by assumption,by assumption,by assumption,by assumption,by assumption,by assumption,by assumption,by assumption,by assumption,by assumption,by assumption,by assumption,by assumption,by assumption,by assumption,by assumption,by assumption,by assumption,by assumption,by assumption,by assumption⟩).mono ?_;rintro e w' ⟨rfl,hK⟩))
 all_goals go_split_ands
 all_goals go_wp2_with fail
 all_goals (go_ret;exact⟨by simp,HBW.out.trans (Below.mono (by assumption) HBW.out.size)⟩)
end Go.Proofs.YtamjadghncnbcaaGreatDoor
