/- osierref25.Parse, walked (printed by mkcr4.py). osierref25.Parse, walked (printed by mkcr4.py): its ways. osierref25.Parse, walked (printed by mkcr4.py): the words that go by fields. -/
import Derived.Test.YtamjadghncnbcaaGreatDoorDrW
import Derived.Test.YtamjadghncnbcaaGreatDoorDsW
import Derived.Test.YtamjadghncnbcaaGreatDoorDoW
import Derived.Test.YtamjadghncnbcaaGreatDoorGgW
import Derived.Test.YtamjadghncnbcaaGreatDoorDdW
import Derived.Deep.RegionHeld3
namespace Go.Proofs.YtamjadghncnbcaaGreatDoor
open Go.RowKit
set_option linter.unusedVariables false
theorem blk11_self {w:World} {n:Nat} {ty:TypeId} {x0 x1 x2 x3 x4 x5 x6 x7 x8 x9 x10:Value} (h:Blk w n ty #[x0,x1,x2,x3,x4,x5,x6,x7,x8,x9,x10]):((((((((((w.setCell ⟨n,0,none⟩ x0).setCell ⟨n,1,none⟩ x1).setCell ⟨n,2,none⟩ x2).setCell ⟨n,3,none⟩ x3).setCell ⟨n,4,none⟩ x4).setCell ⟨n,5,none⟩ x5).setCell ⟨n,6,none⟩ x6).setCell ⟨n,7,none⟩ x7).setCell ⟨n,8,none⟩ x8).setCell ⟨n,9,none⟩ x9).setCell ⟨n,10,none⟩ x10=w:=by
 rw[setCell_self (i:=0) (v:=x0) h rfl,setCell_self (i:=1) (v:=x1) h rfl,setCell_self (i:=2) (v:=x2) h rfl,setCell_self (i:=3) (v:=x3) h rfl,setCell_self (i:=4) (v:=x4) h rfl,setCell_self (i:=5) (v:=x5) h rfl,setCell_self (i:=6) (v:=x6) h rfl,setCell_self (i:=7) (v:=x7) h rfl,setCell_self (i:=8) (v:=x8) h rfl,setCell_self (i:=9) (v:=x9) h rfl,setCell_self (i:=10) (v:=x10) h rfl]
set_option maxHeartbeats 2000000 in
set_option maxRecDepth 100000 in
theorem refCmd_ret {n:Nat} {w1:World} {x0 x1 x2 x3 x4 x5 x6 x7 x8 x9 x10:Value} {T:Array Value} {a f:Value} {Post:Ending->World->Prop} (h:Blk w1 n 39 #[x0,x1,x2,x3,x4,x5,x6,x7,x8,x9,x10]) (h2:T[2]?.getD undef=.pointer (some ⟨n,0,none⟩)) (h3:T[3]?.getD undef=a) (h4:T[4]?.getD undef=f)
 (hp:Post (.returned (.tuple #[.agg #[x0,x1,x2,x3,x4,x5,x6,x7,x8,x9,x10],a,f])) w1):bodyPost Tryz.prog Tryz.f14 Post Exit.ret { tmps:=T,defers:=[] } w1:=by
 have c0:=h.cell 0
 have c1:=h.cell 1
 have c2:=h.cell 2
 have c3:=h.cell 3
 have c4:=h.cell 4
 have c5:=h.cell 5
 have c6:=h.cell 6
 have c7:=h.cell 7
 have c8:=h.cell 8
 have c9:=h.cell 9
 have c10:=h.cell 10
 simp only[List.getElem?_toArray,List.getElem?_cons_zero,List.getElem?_cons_succ] at c0 c1 c2 c3 c4 c5 c6 c7 c8 c9 c10
 exact bodyPost_ret (v:=.tuple #[.agg #[x0,x1,x2,x3,x4,x5,x6,x7,x8,x9,x10],a,f]) (by simp [results,Tryz.results14,go_sem,h2,h3,h4,c0,c1,c2,c3,c4,c5,c6,c7,c8,c9,c10]) rfl hp
structure DF (w0 w:World) (b tb cb wb:Nat) (vt:Value) (S:LS) (cs:Array Value) (tkk vk vn tp:Int) (xb vb:ByteArray):Prop where
 r:Blk w w0.heap.size 39 #[.int .i64 0,.string ⟨#[]⟩,.slice none 0 0,.string ⟨#[]⟩,.slice none 0 0,.slice none 0 0,.slice none 0 0,.string ⟨#[]⟩,.int .i64 0,.int .i64 0,.slice none 0 0]
 k:Blk w tb 105 #[.int .i64 tkk,.string xb,.int .i64 vk,.int .i64 vn,.string vb,.int .i64 tp]
 q:Blk w cb 39 cs
 ln:Ln w b S vt
 g:Good S
 wd:Blk w wb 9 (wordsC.map fun s=>Value.string ⟨s.toArray⟩).toArray
 fm:Blk w (wb+1) 9 (formsC.map fun s=>Value.string ⟨s.toArray⟩).toArray
 bl:Below w0.heap.size w0 w
 hb:w0.heap.size<b
 hc:w0.heap.size<cb
 ht:w0.heap.size<tb
 hbc:b<cb
section
variable {w0 w w' : World} {b tb cb wb : Nat} {vt : Value} {S S' : LS} {cs : Array Value} {tkk vk vn tp : Int} {xb vb : ByteArray}
theorem DF.keep (h:DF w0 w b tb cb wb vt S cs tkk vk vn tp xb vb) (hb:Below w.heap.size w w'):DF w0 w' b tb cb wb vt S cs tkk vk vn tp xb vb :=
 ⟨h.r.below hb h.r.lt,h.k.below hb h.k.lt,h.q.below hb h.q.lt,h.ln.keep hb,h.g,h.wd.below hb h.wd.lt,h.fm.below hb h.fm.lt,h.bl.trans (hb.mono h.bl.size),h.hb,h.hc,h.ht,h.hbc⟩
theorem DF.line (h:DF w0 w b tb cb wb vt S cs tkk vk vn tp xb vb) (hm:MT b [101] w w') (hl:Ln w' b S' vt) (hg:Good S'):DF w0 w' b tb cb wb vt S' cs tkk vk vn tp xb vb :=
 ⟨h.r.mt hm (by decide),h.k.mt hm (by decide),h.q.mt hm (by decide),hl,hg,h.wd.mt hm (by decide),h.fm.mt hm (by decide),h.bl.trans ((hm.mono (fun _ q=>q) (Nat.le_of_lt h.hb)).below h.bl.size),h.hb,h.hc,h.ht,h.hbc⟩
theorem DF.store (h:DF w0 w b tb cb wb vt S cs tkk vk vn tp xb vb) (i:Nat) (u:Value):DF w0 (w.setCell ⟨cb,i,none⟩ u) b tb cb wb vt S (cs.setIfInBounds i u) tkk vk vn tp xb vb:=by
 have m:MT 0 [39] w (w.setCell ⟨cb,i,none⟩ u):=MT.setCell (MT.refl w) h.q (by simp) (Nat.zero_le _) _
 have h1:=h.hc
 exact⟨h.r.far (by intro q;simp only at q;omega) u,h.k.mt m (by decide),h.q.set_ i u,h.ln.mt m (by decide) (by decide),h.g,h.wd.mt m (by decide),h.fm.mt m (by decide),h.bl.setCell (Nat.le_of_lt h1) u,h.hb,h.hc,h.ht,h.hbc⟩
end
theorem want0_law {c:List Tok} (he:Ended c):match tk 0 [] c with
 | .bad a e=>(wantS 0 [] (.ok c)).2=.bad a e
 | .ok _ _=>∃ c',(wantS 0 [] (.ok c)).2=.ok c':=by
 obtain⟨t,r,rfl⟩:=he.some
 by_cases hc:t.k=0
 ·have h1:tk 0 [] (t::r)=.ok t (t::r):=by simp [tk,hc]
  rw[h1]
  exact⟨r,by simp [wantS,wantT,headT,hc]⟩
 ·have h1:tk 0 [] (t::r)=.bad t.p 80:=by simp [tk,hc]
  rw[h1]
  simp [wantS,wantT,headT,hc]
theorem end_law {S:LS} {c:Cmd} {p:PR Cmd} (h:FR S c p) (hg:Good S):match endC p with
 | .bad a f=>(wantS 0 [] S).2=.bad a f/\f≠0
 | .ok x _=>(∃ c',(wantS 0 [] S).2=.ok c')/\c=x:=by
 unfold endC bindP
 cases p with
 | bad a f =>
   have h1:S=.bad a f:=h
   subst h1
   exact⟨rfl,hg⟩
 | ok x r =>
   obtain⟨h1,h2⟩:=h
   subst h1
   have h3:=want0_law hg
   simp only
   cases hk:tk 0 [] r with
   | bad a e =>
     rw[hk] at h3
     refine⟨h3,?_⟩
     unfold tk at hk
     obtain⟨t,r',rfl⟩:=Ended.some hg
     simp only at hk
     split at hk
     ·cases hk
     ·injection hk with _ e2
      rw[<-e2]
      decide
   | ok u c2 =>
     rw[hk] at h3
     exact⟨h3,h2⟩
set_option maxHeartbeats 8000000 in
set_option maxRecDepth 100000 in
theorem ref25_bad (s:ByteArray) (w:World) (hs:s.size<=281474976710656) (hg:Glob w) (a f:Int) (hst:startS (lexR s.data.toList)=.bad a f) :
 Calls Tryz.prog 14 #[.string s] w (CmdPost w (.bad a f)):=by
 have hb0:Below w.heap.size w (w.alloc (.cells #[.int .i64 0,.string ⟨#[]⟩,.slice none 0 0,.string ⟨#[]⟩,.slice none 0 0,.slice none 0 0,.slice none 0 0,.string ⟨#[]⟩,.int .i64 0,.int .i64 0,.slice none 0 0] 39)):=balloc (Below.refl _ _) _
 have ho:=refOpen_any s _ hs (hg.below hb0)
 have hgd:Good (.bad a f):=by rw[<-hst];exact startS_good _
 rw[hst] at ho
 have hr0:=Blk.new w 39 #[.int .i64 0,.string ⟨#[]⟩,.slice none 0 0,.string ⟨#[]⟩,.slice none 0 0,.slice none 0 0,.slice none 0 0,.string ⟨#[]⟩,.int .i64 0,.int .i64 0,.slice none 0 0]
 have HO:=Lib.hid ho
 have HR0:=Lib.hid hr0
 have HB0:=Lib.hid hb0
 have hfn:(f != 0)=true:=by simpa using (show f≠0 from hgd)
 clear ho hr0 hb0 hst hgd
 go_enter Tryz.func14,Tryz.ntmps14
 go_wp2_with fail
 refine HO.out.mono ?_
 rintro e w1 ⟨b,vt,rfl,hbs,hln,hb1⟩
 have hbl:w.heap.size<b:=by simp at hbs;omega
 obtain⟨tb0,ib,hld⟩:=ln_bad hln
 have e2:=hld.blk.cell 2
 have e3:=hld.blk.cell 3
 have hel:=hld.blk.lt
 simp only[List.getElem?_toArray,List.getElem?_cons_zero,List.getElem?_cons_succ] at e2 e3
 have hr1:=HR0.out.below hb1 HR0.out.lt
 have HB1:=Lib.hid (bdrew (bt2 HB0.out hb1))
 have hself:=blk11_self hr1
 have hrd:=hr1.drew
 have HRD:=Lib.hid hrd
 have hS2:(w1.drew).cell? ⟨b,2,none⟩=some (.int .i64 a):=e2
 have hS3:(w1.drew).cell? ⟨b,3,none⟩=some (.int .i64 f):=e3
 have r0:=hr1.cell 0
 have ry0:=hr1.frozen 0
 have r1:=hr1.cell 1
 have ry1:=hr1.frozen 1
 have r2:=hr1.cell 2
 have ry2:=hr1.frozen 2
 have r3:=hr1.cell 3
 have ry3:=hr1.frozen 3
 have r4:=hr1.cell 4
 have ry4:=hr1.frozen 4
 have r5:=hr1.cell 5
 have ry5:=hr1.frozen 5
 have r6:=hr1.cell 6
 have ry6:=hr1.frozen 6
 have r7:=hr1.cell 7
 have ry7:=hr1.frozen 7
 have r8:=hr1.cell 8
 have ry8:=hr1.frozen 8
 have r9:=hr1.cell 9
 have ry9:=hr1.frozen 9
 have r10:=hr1.cell 10
 have ry10:=hr1.frozen 10
 have rl:=hr1.lt
 simp only[List.getElem?_toArray,List.getElem?_cons_zero,List.getElem?_cons_succ] at r0 r1 r2 r3 r4 r5 r6 r7 r8 r9 r10
 have hT2:((((((((((((w1).setCell ⟨w.heap.size,0,none⟩ (.int .i64 0)).setCell ⟨w.heap.size,1,none⟩ (.string ⟨#[]⟩)).setCell ⟨w.heap.size,2,none⟩ (.slice none 0 0)).setCell ⟨w.heap.size,3,none⟩ (.string ⟨#[]⟩)).setCell ⟨w.heap.size,4,none⟩ (.slice none 0 0)).setCell ⟨w.heap.size,5,none⟩ (.slice none 0 0)).setCell ⟨w.heap.size,6,none⟩ (.slice none 0 0)).setCell ⟨w.heap.size,7,none⟩ (.string ⟨#[]⟩)).setCell ⟨w.heap.size,8,none⟩ (.int .i64 0)).setCell ⟨w.heap.size,9,none⟩ (.int .i64 0)).setCell ⟨w.heap.size,10,none⟩ (.slice none 0 0)).drew.cell? ⟨b,2,none⟩=some (.int .i64 a):=by rw[hself];exact hS2
 have hT3:((((((((((((w1).setCell ⟨w.heap.size,0,none⟩ (.int .i64 0)).setCell ⟨w.heap.size,1,none⟩ (.string ⟨#[]⟩)).setCell ⟨w.heap.size,2,none⟩ (.slice none 0 0)).setCell ⟨w.heap.size,3,none⟩ (.string ⟨#[]⟩)).setCell ⟨w.heap.size,4,none⟩ (.slice none 0 0)).setCell ⟨w.heap.size,5,none⟩ (.slice none 0 0)).setCell ⟨w.heap.size,6,none⟩ (.slice none 0 0)).setCell ⟨w.heap.size,7,none⟩ (.string ⟨#[]⟩)).setCell ⟨w.heap.size,8,none⟩ (.int .i64 0)).setCell ⟨w.heap.size,9,none⟩ (.int .i64 0)).setCell ⟨w.heap.size,10,none⟩ (.slice none 0 0)).drew.cell? ⟨b,3,none⟩=some (.int .i64 f):=by rw[hself];exact hS3
 have HSELF:=Lib.hid hself
 clear hln hld hb1 hr1 hself hrd HR0 HB0 HO hbs
 go_wp2_with fail
 go_region_held3 (fun w'=>w'.cell? ⟨b,2,none⟩=some (.int .i64 a)/\w'.cell? ⟨b,3,none⟩=some (.int .i64 f)) (first | go_keep | (exact⟨hS2,hS3⟩) | (exact⟨hT2,hT3⟩)) (fail)
 all_goals
  rename_i KK hKK hHeld
  clear hHeld
  simp only[Exit.then]
  refine hKK _ _ (wp_ret ?_)
  first | rw[HSELF.out] | skip
  show bodyPost Tryz.prog Tryz.f14 (CmdPost w (.bad a f)) Exit.ret _ _
  exact refCmd_ret HRD.out rfl rfl rfl ⟨rfl,HB1.out⟩
theorem CmdOwn.low {B B':Nat} {w:World} {cells:Array Value} {c:Cmd} (h:CmdOwn B w cells c) (hb:B'<=B):CmdOwn B' w cells c:=by
 obtain⟨cv,hv,av,bv,rv,e,h1,h2,h3,h4,h5⟩:=h
 exact⟨cv,hv,av,bv,rv,e,World.ownsRow.low h1 hb,World.ownsRow.low h2 hb,h3.low hb,h4.low hb,World.ownsRow.low h5 hb⟩
theorem CmdOwn.mt {B B':Nat} {w w':World} {cells:Array Value} {c:Cmd} {Ts:List TypeId} (h:CmdOwn B w cells c) (hm:MT B' Ts w w') (h1:64 ∉ Ts) (h2:9 ∉ Ts) (h3:67 ∉ Ts) (h4:71 ∉ Ts) (h5:51 ∉ Ts) (h6:69 ∉ Ts):CmdOwn B w' cells c:=by
 obtain⟨cv,hv,av,bv,rv,e,q1,q2,q3,q4,q5⟩:=h
 exact⟨cv,hv,av,bv,rv,e,hm.ownsRow q1 h1,hm.ownsRow q2 h2,q3.mt hm h3 h4,q4.mt hm h5 h6,hm.ownsRow q5 h6⟩
theorem DF.put {w0 w w':World} {b tb cb wb:Nat} {vt:Value} {S:LS} {cs cs':Array Value} {tkk vk vn tp:Int} {xb vb:ByteArray} (h:DF w0 w b tb cb wb vt S cs tkk vk vn tp xb vb) (hb:Blk w' cb 39 cs') (hm:Mod (fun k=>k=cb) w w'):DF w0 w' b tb cb wb vt S cs' tkk vk vn tp xb vb:=by
 have m:MT w0.heap.size [39] w w':=MT.ofMod hm h.q (by simp) (Nat.le_of_lt h.hc)
 have h1:=h.hc
 exact⟨h.r.mod hm (by omega),h.k.mt m (by decide),hb,h.ln.mt m (by decide) (by decide),h.g,h.wd.mt m (by decide),h.fm.mt m (by decide),h.bl.trans (m.below h.bl.size),h.hb,h.hc,h.ht,h.hbc⟩
set_option maxHeartbeats 8000000 in
set_option maxRecDepth 100000 in
theorem ref25_none (s:ByteArray) (w:World) (hs:s.size<=281474976710656) (hg:Glob w) (t:Tok) (c:List Tok) (hst:startS (lexR s.data.toList)=.ok (t::c)) (hk:kindC t=0) :
 Calls Tryz.prog 14 #[.string s] w (CmdPost w ((.bad t.p 250:PR Cmd))):=by
 have hx:t.k=1->idxI wordsC t.x = -1:=fun h1=>by
  unfold idxI
  rw[if_neg]
  intro hm
  unfold kindC at hk
  rw[if_pos ⟨h1,hm⟩] at hk
  omega
 have HX:=Lib.hid hx
 clear hx hk
 have hb0:Below w.heap.size w (w.alloc (.cells #[.int .i64 0,.string ⟨#[]⟩,.slice none 0 0,.string ⟨#[]⟩,.slice none 0 0,.slice none 0 0,.slice none 0 0,.string ⟨#[]⟩,.int .i64 0,.int .i64 0,.slice none 0 0] 39)):=balloc (Below.refl _ _) _
 have ho:=refOpen_any s _ hs (hg.below hb0)
 have hgd:Good (.ok (t::c)):=by rw[<-hst];exact startS_good _
 rw[hst] at ho
 have hr0:=Blk.new w 39 #[.int .i64 0,.string ⟨#[]⟩,.slice none 0 0,.string ⟨#[]⟩,.slice none 0 0,.slice none 0 0,.slice none 0 0,.string ⟨#[]⟩,.int .i64 0,.int .i64 0,.slice none 0 0]
 have HO:=Lib.hid ho
 have HR0:=Lib.hid hr0
 have HB0:=Lib.hid hb0
 have HGD:=Lib.hid hgd
 clear ho hr0 hb0 hst hgd
 obtain⟨tkk,x,vk,vn,vs,tp⟩:=t
 simp only at *
 have hxs:(⟨x.toArray⟩:ByteArray).size=x.length:=by simp [ByteArray.size]
 go_enter Tryz.func14,Tryz.ntmps14
 go_wp2_with fail
 refine HO.out.mono ?_
 rintro e w1 ⟨b,vt,rfl,hbs,hln,hb1⟩
 have hbl:w.heap.size<b:=by simp at hbs;omega
 obtain⟨tb0,ib,pb,hld,_⟩:=ln_ok hln
 have e3:=hld.blk.cell 3
 have hel:=hld.blk.lt
 simp only[List.getElem?_toArray,List.getElem?_cons_zero,List.getElem?_cons_succ] at e3
 have HW1:=Lib.hid (refWords_any w1)
 have HB1:=Lib.hid (bt2 HB0.out hb1)
 have HR1:=Lib.hid (HR0.out.below hb1 HR0.out.lt)
 have HLN:=Lib.hid hln
 skip
 clear hb1 hln hld HO HR0 HB0 hbs
 go_wp2_with fail
 refine HW1.out.mono ?_
 rintro e w2 ⟨rfl,hwd,hfm,hb2⟩
 have HWD:=Lib.hid hwd
 have HFM:=Lib.hid hfm
 have HB2:=Lib.hid hb2
 have HNX:=Lib.hid (next_ln (HLN.out.keep hb2))
 have hz2:=hb2.size
 clear hwd hfm hb2 HW1 e3
 unfold Tok.v at HNX
 go_wp2_with fail
 refine HNX.out.mono ?_
 rintro e w3 ⟨rfl,hb3⟩
 have hz3:=hb3.size
 generalize hxb:(⟨x.toArray⟩:ByteArray)=xb at *
 generalize hvb:(⟨vs.toArray⟩:ByteArray)=vb at *
 have bk:Below w3.heap.size w3 ((w3.alloc (.cells #[.int .i64 tkk,.string xb,.int .i64 vk,.int .i64 vn,.string vb,.int .i64 tp] 105)).alloc (.cells #[.int .i64 0,.string ⟨#[]⟩,.slice none 0 0,.string ⟨#[]⟩,.slice none 0 0,.slice none 0 0,.slice none 0 0,.string ⟨#[]⟩,.int .i64 0,.int .i64 0,.slice none 0 0] 39)):=balloc (balloc (Below.refl _ _) _) _
 have hb23:=HB2.out.trans (hb3.mono hz2)
 have hb13:=hb23.trans (bk.mono hb23.size)
 have hb23b:=hb3.trans (bk.mono hz3)
 have hf:DF w ((w3.alloc (.cells #[.int .i64 tkk,.string xb,.int .i64 vk,.int .i64 vn,.string vb,.int .i64 tp] 105)).alloc (.cells #[.int .i64 0,.string ⟨#[]⟩,.slice none 0 0,.string ⟨#[]⟩,.slice none 0 0,.slice none 0 0,.slice none 0 0,.string ⟨#[]⟩,.int .i64 0,.int .i64 0,.slice none 0 0] 39)) b w3.heap.size (w3.heap.size+1) w1.heap.size vt (.ok (⟨tkk,x,vk,vn,vs,tp⟩::c)) #[.int .i64 0,.string ⟨#[]⟩,.slice none 0 0,.string ⟨#[]⟩,.slice none 0 0,.slice none 0 0,.slice none 0 0,.string ⟨#[]⟩,.int .i64 0,.int .i64 0,.slice none 0 0] tkk vk vn tp xb vb :=
  ⟨HR1.out.below hb13 HR1.out.lt,(Blk.new _ _ _).alloc _,blkNew1 _ _ _ _,HLN.out.keep hb13,HGD.out,HWD.out.below hb23b HWD.out.lt,HFM.out.below hb23b HFM.out.lt,HB1.out.trans (hb13.mono HB1.out.size),hbl,by omega,by omega,by omega⟩
 obtain⟨W4,hW4⟩:∃ W4,(w3.alloc (.cells #[.int .i64 tkk,.string xb,.int .i64 vk,.int .i64 vn,.string vb,.int .i64 tp] 105)).alloc (.cells #[.int .i64 0,.string ⟨#[]⟩,.slice none 0 0,.string ⟨#[]⟩,.slice none 0 0,.slice none 0 0,.slice none 0 0,.string ⟨#[]⟩,.int .i64 0,.int .i64 0,.slice none 0 0] 39)=W4:=⟨_,rfl⟩
 rw[hW4] at hf
 have HW4:=Lib.hid hW4
 have HF4:=Lib.hid hf
 have HXB:=Lib.hid (And.intro hxb hvb)
 have z0:=hf.k.cell 0
 have z1:=hf.k.cell 1
 have z5:=hf.k.cell 5
 have zl:=hf.k.lt
 have q0:=hf.q.cell 0
 have qy:=hf.q.frozen 0
 have ql:=hf.q.lt
 simp only[List.getElem?_toArray,List.getElem?_cons_zero,List.getElem?_cons_succ] at z0 z1 z5 q0
 have hsa:StrsAt W4 (.slice (some ⟨w1.heap.size,0,none⟩) 18 18) wordsC:=strs_blk hf.wd (by decide)
 have HSA:=Lib.hid hsa
 clear hb3 bk hb23 hb13 hb23b hf hW4 hxb hvb hsa hel HNX HLN HGD HB1 HR1 HWD HFM HB2
 go_upto_region 7 with fail
 rw[HW4.out]
 have hself:=blk11_self HF4.out.r
 have HBL:=Lib.hid HF4.out.bl
 have HNE:=Lib.hid (And.intro HF4.out.hc HF4.out.ht)
 have r:=HF4.out.r
 by_cases h1:tkk=1
 case' pos =>
  subst h1
  have hat:=refAt_any W4 _ wordsC x HSA.out
  rw[HX.out rfl,HXB.out.1] at hat
  have HAT:=Lib.hid hat
  clear hat
  go_wp2_with fail
  refine HAT.out.mono ?_
  rintro e w5 ⟨rfl,rfl⟩
  have hf5:=HF4.out.store 0 (.int .i64 0)
  obtain⟨W5,hW5⟩:∃ W5,W4.setCell ⟨w3.heap.size+1,0,none⟩ (.int .i64 0)=W5:=⟨_,rfl⟩
  rw[hW5] at hf5
  have HW5:=Lib.hid hW5
  have HF5:=Lib.hid hf5
  clear hf5 hW5 HAT
  go_upto_region 9 with fail
  rw[HW5.out]
 case' neg =>
  have hne:(tkk == 1)=false:=by simpa using h1
  have hf5:=HF4.out
  obtain⟨W5,rfl⟩:∃ W5,W5=W4:=⟨_,rfl⟩
  have HF5:=Lib.hid hf5
  clear hf5
  go_upto_region 9 with fail
 all_goals
  clear z0 z1 z5 zl q0 qy ql hself r HBL
  have z5:=HF5.out.k.cell 5
  have zl:=HF5.out.k.lt
  have q0:=HF5.out.q.cell 0
  have ql:=HF5.out.q.lt
  simp only[List.getElem?_toArray,List.getElem?_cons_zero,List.getElem?_cons_succ] at z5 q0
  have hr:=HF5.out.r
  have hself:=blk11_self hr
  have HRD:=Lib.hid hr.drew
  have HSELF:=Lib.hid hself
  have HBD:=Lib.hid (bdrew HF5.out.bl)
  have hS2:(W5.drew).cell? ⟨w3.heap.size,5,none⟩=some (.int .i64 tp):=z5
  have hT2:((((((((((((W5).setCell ⟨w.heap.size,0,none⟩ (.int .i64 0)).setCell ⟨w.heap.size,1,none⟩ (.string ⟨#[]⟩)).setCell ⟨w.heap.size,2,none⟩ (.slice none 0 0)).setCell ⟨w.heap.size,3,none⟩ (.string ⟨#[]⟩)).setCell ⟨w.heap.size,4,none⟩ (.slice none 0 0)).setCell ⟨w.heap.size,5,none⟩ (.slice none 0 0)).setCell ⟨w.heap.size,6,none⟩ (.slice none 0 0)).setCell ⟨w.heap.size,7,none⟩ (.string ⟨#[]⟩)).setCell ⟨w.heap.size,8,none⟩ (.int .i64 0)).setCell ⟨w.heap.size,9,none⟩ (.int .i64 0)).setCell ⟨w.heap.size,10,none⟩ (.slice none 0 0)).drew.cell? ⟨w3.heap.size,5,none⟩=some (.int .i64 tp):=by rw[hself];exact hS2
  have r0:=hr.cell 0
  have ry0:=hr.frozen 0
  have r1:=hr.cell 1
  have ry1:=hr.frozen 1
  have r2:=hr.cell 2
  have ry2:=hr.frozen 2
  have r3:=hr.cell 3
  have ry3:=hr.frozen 3
  have r4:=hr.cell 4
  have ry4:=hr.frozen 4
  have r5:=hr.cell 5
  have ry5:=hr.frozen 5
  have r6:=hr.cell 6
  have ry6:=hr.frozen 6
  have r7:=hr.cell 7
  have ry7:=hr.frozen 7
  have r8:=hr.cell 8
  have ry8:=hr.frozen 8
  have r9:=hr.cell 9
  have ry9:=hr.frozen 9
  have r10:=hr.cell 10
  have ry10:=hr.frozen 10
  have rl:=hr.lt
  simp only[List.getElem?_toArray,List.getElem?_cons_zero,List.getElem?_cons_succ] at r0 r1 r2 r3 r4 r5 r6 r7 r8 r9 r10
  clear hr hself
  go_wp2_with fail
  go_region_held3 (fun w'=>w'.cell? ⟨w3.heap.size,5,none⟩=some (.int .i64 tp)) (first | go_keep | exact hS2 | exact hT2) (fail)
  all_goals
   rename_i KK hKK hHeld
   clear hHeld
   simp only[Exit.then]
   refine hKK _ _ (wp_ret ?_)
   first | rw[HSELF.out] | skip
   show bodyPost Tryz.prog Tryz.f14 (CmdPost w (.bad tp 250)) Exit.ret _ _
   exact refCmd_ret HRD.out rfl rfl rfl ⟨rfl,HBD.out⟩
structure DE (w0 w:World) (cb:Nat) (cs:Array Value):Prop where
 r:Blk w w0.heap.size 39 #[.int .i64 0,.string ⟨#[]⟩,.slice none 0 0,.string ⟨#[]⟩,.slice none 0 0,.slice none 0 0,.slice none 0 0,.string ⟨#[]⟩,.int .i64 0,.int .i64 0,.slice none 0 0]
 q:Blk w cb 39 cs
 bl:Below w0.heap.size w0 w
set_option maxHeartbeats 8000000 in
set_option maxRecDepth 100000 in
theorem ref25_fields (s:ByteArray) (w:World) (hs:s.size<=281474976710656) (hg:Glob w) (t:Tok) (c:List Tok) (hst:startS (lexR s.data.toList)=.ok (t::c)) (k:Nat) (hk18:k<18) (hk1:t.k=1) (hix:idxI wordsC t.x=k) (h0p:0<=t.p) (h1p:t.p+(⟨t.x.toArray⟩:ByteArray).size<=281474976710656) (fm:ByteArray) (hfm:(formsC.map fun s=>Value.string ⟨s.toArray⟩).toArray[k]? = some (.string fm)) (hd:(fm.toList == [100])=false) (hq:(fm.toList == [113])=false) (hbb:(fm.toList == [98])=false) (P:PR Cmd)
 (hfl:∀ (W:World) (b:Nat) (vt:Value),Ln W b (.ok c) vt->Good (.ok c)->Calls Tryz.prog 59 #[.pointer (some ⟨b,0,none⟩),.agg #[.int .i64 ((k:Int)+1),.string ⟨#[]⟩,.slice none 0 0,.string ⟨#[]⟩,.slice none 0 0,.slice none 0 0,.slice none 0 0,.string ⟨#[]⟩,.int .i64 0,.int .i64 0,.slice none 0 0],.string fm] W (FPost W b vt P)) :
 Calls Tryz.prog 14 #[.string s] w (CmdPost w (endC P)):=by
 have HX:=Lib.hid hix
 have HFM2:=Lib.hid hfm
 have hge:Good (.ok (t::c)):=by rw[<-hst];exact startS_good _
 have hwt:wantS 1 [] (.ok (t::c))=(t,.ok c):=by
  show wantT 1 [] (t::c)=_
  unfold wantT
  exact if_pos ⟨hk1,.inl rfl⟩
 have hg1:Good (.ok c):=Ended.cons hge (by rw[hk1];decide)
 have HWT:=Lib.hid hwt
 have HG1:=Lib.hid hg1
 have HK1:=Lib.hid hk1
 clear hge hwt hg1 hix hfm hk1
 have HFL:=Lib.hid hfl
 clear hfl
 obtain⟨RES,hRES⟩:∃ RES,endC P=RES:=⟨_,rfl⟩
 rw[hRES]
 have HRES:=Lib.hid hRES
 clear hRES
 have hb0:Below w.heap.size w (w.alloc (.cells #[.int .i64 0,.string ⟨#[]⟩,.slice none 0 0,.string ⟨#[]⟩,.slice none 0 0,.slice none 0 0,.slice none 0 0,.string ⟨#[]⟩,.int .i64 0,.int .i64 0,.slice none 0 0] 39)):=balloc (Below.refl _ _) _
 have ho:=refOpen_any s _ hs (hg.below hb0)
 have hgd:Good (.ok (t::c)):=by rw[<-hst];exact startS_good _
 rw[hst] at ho
 have hr0:=Blk.new w 39 #[.int .i64 0,.string ⟨#[]⟩,.slice none 0 0,.string ⟨#[]⟩,.slice none 0 0,.slice none 0 0,.slice none 0 0,.string ⟨#[]⟩,.int .i64 0,.int .i64 0,.slice none 0 0]
 have HO:=Lib.hid ho
 have HR0:=Lib.hid hr0
 have HB0:=Lib.hid hb0
 have HGD:=Lib.hid hgd
 clear ho hr0 hb0 hst hgd
 obtain⟨tkk,x,vk,vn,vs,tp⟩:=t
 simp only at *
 have hxs:(⟨x.toArray⟩:ByteArray).size=x.length:=by simp [ByteArray.size]
 go_enter Tryz.func14,Tryz.ntmps14
 go_wp2_with fail
 refine HO.out.mono ?_
 rintro e w1 ⟨b,vt,rfl,hbs,hln,hb1⟩
 have hbl:w.heap.size<b:=by simp at hbs;omega
 obtain⟨tb0,ib,pb,hld,_⟩:=ln_ok hln
 have e3:=hld.blk.cell 3
 have hel:=hld.blk.lt
 simp only[List.getElem?_toArray,List.getElem?_cons_zero,List.getElem?_cons_succ] at e3
 have HW1:=Lib.hid (refWords_any w1)
 have HB1:=Lib.hid (bt2 HB0.out hb1)
 have HR1:=Lib.hid (HR0.out.below hb1 HR0.out.lt)
 have HLN:=Lib.hid hln
 skip
 clear hb1 hln hld HO HR0 HB0 hbs
 go_wp2_with fail
 refine HW1.out.mono ?_
 rintro e w2 ⟨rfl,hwd,hfm,hb2⟩
 have HWD:=Lib.hid hwd
 have HFM:=Lib.hid hfm
 have HB2:=Lib.hid hb2
 have HNX:=Lib.hid (next_ln (HLN.out.keep hb2))
 have hz2:=hb2.size
 clear hwd hfm hb2 HW1 e3
 unfold Tok.v at HNX
 go_wp2_with fail
 refine HNX.out.mono ?_
 rintro e w3 ⟨rfl,hb3⟩
 have hz3:=hb3.size
 generalize hxb:(⟨x.toArray⟩:ByteArray)=xb at *
 generalize hvb:(⟨vs.toArray⟩:ByteArray)=vb at *
 have bk:Below w3.heap.size w3 ((w3.alloc (.cells #[.int .i64 tkk,.string xb,.int .i64 vk,.int .i64 vn,.string vb,.int .i64 tp] 105)).alloc (.cells #[.int .i64 0,.string ⟨#[]⟩,.slice none 0 0,.string ⟨#[]⟩,.slice none 0 0,.slice none 0 0,.slice none 0 0,.string ⟨#[]⟩,.int .i64 0,.int .i64 0,.slice none 0 0] 39)):=balloc (balloc (Below.refl _ _) _) _
 have hb23:=HB2.out.trans (hb3.mono hz2)
 have hb13:=hb23.trans (bk.mono hb23.size)
 have hb23b:=hb3.trans (bk.mono hz3)
 have hf:DF w ((w3.alloc (.cells #[.int .i64 tkk,.string xb,.int .i64 vk,.int .i64 vn,.string vb,.int .i64 tp] 105)).alloc (.cells #[.int .i64 0,.string ⟨#[]⟩,.slice none 0 0,.string ⟨#[]⟩,.slice none 0 0,.slice none 0 0,.slice none 0 0,.string ⟨#[]⟩,.int .i64 0,.int .i64 0,.slice none 0 0] 39)) b w3.heap.size (w3.heap.size+1) w1.heap.size vt (.ok (⟨tkk,x,vk,vn,vs,tp⟩::c)) #[.int .i64 0,.string ⟨#[]⟩,.slice none 0 0,.string ⟨#[]⟩,.slice none 0 0,.slice none 0 0,.slice none 0 0,.string ⟨#[]⟩,.int .i64 0,.int .i64 0,.slice none 0 0] tkk vk vn tp xb vb :=
  ⟨HR1.out.below hb13 HR1.out.lt,(Blk.new _ _ _).alloc _,blkNew1 _ _ _ _,HLN.out.keep hb13,HGD.out,HWD.out.below hb23b HWD.out.lt,HFM.out.below hb23b HFM.out.lt,HB1.out.trans (hb13.mono HB1.out.size),hbl,by omega,by omega,by omega⟩
 obtain⟨W4,hW4⟩:∃ W4,(w3.alloc (.cells #[.int .i64 tkk,.string xb,.int .i64 vk,.int .i64 vn,.string vb,.int .i64 tp] 105)).alloc (.cells #[.int .i64 0,.string ⟨#[]⟩,.slice none 0 0,.string ⟨#[]⟩,.slice none 0 0,.slice none 0 0,.slice none 0 0,.string ⟨#[]⟩,.int .i64 0,.int .i64 0,.slice none 0 0] 39)=W4:=⟨_,rfl⟩
 rw[hW4] at hf
 have HW4:=Lib.hid hW4
 have HF4:=Lib.hid hf
 have HXB:=Lib.hid (And.intro hxb hvb)
 have z0:=hf.k.cell 0
 have z1:=hf.k.cell 1
 have z5:=hf.k.cell 5
 have zl:=hf.k.lt
 have q0:=hf.q.cell 0
 have qy:=hf.q.frozen 0
 have ql:=hf.q.lt
 simp only[List.getElem?_toArray,List.getElem?_cons_zero,List.getElem?_cons_succ] at z0 z1 z5 q0
 have hsa:StrsAt W4 (.slice (some ⟨w1.heap.size,0,none⟩) 18 18) wordsC:=strs_blk hf.wd (by decide)
 have HSA:=Lib.hid hsa
 clear hb3 bk hb23 hb13 hb23b hf hW4 hxb hvb hsa hel HNX HLN HGD HB1 HR1 HWD HFM HB2
 go_upto_region 7 with fail
 rw[HW4.out]
 have hk1:=HK1.out
 subst hk1
 have hat:=refAt_any W4 _ wordsC x HSA.out
 rw[HX.out,HXB.out.1] at hat
 have HAT:=Lib.hid hat
 have hne0:((k:Int)+1 == 0)=false:=by rw[beq_eq_false_iff_ne];omega
 clear hat
 go_wp2_with fail
 refine HAT.out.mono ?_
 rintro e w5 ⟨rfl,rfl⟩
 have hf5:DF w (W4.setCell ⟨w3.heap.size+1,0,none⟩ (.int .i64 ((k:Int)+1))) b w3.heap.size (w3.heap.size+1) w1.heap.size vt (.ok (⟨1,x,vk,vn,vs,tp⟩::c)) #[.int .i64 ((k:Int)+1),.string ⟨#[]⟩,.slice none 0 0,.string ⟨#[]⟩,.slice none 0 0,.slice none 0 0,.slice none 0 0,.string ⟨#[]⟩,.int .i64 0,.int .i64 0,.slice none 0 0] 1 vk vn tp xb vb:=HF4.out.store 0 (.int .i64 ((k:Int)+1))
 obtain⟨W5,hW5⟩:∃ W5,W4.setCell ⟨w3.heap.size+1,0,none⟩ (.int .i64 ((k:Int)+1))=W5:=⟨_,rfl⟩
 rw[hW5] at hf5
 have HW5:=Lib.hid hW5
 have HF5:=Lib.hid hf5
 have hwn:=want_ln hf5.ln hf5.g 1 []
 rw[HWT.out] at hwn
 unfold Tok.v at hwn
 simp only[HXB.out.1,HXB.out.2] at hwn
 have HWN:=Lib.hid hwn
 clear hf5 hW5 HAT hwn
 go_upto_region 9 with fail
 rw[HW5.out]
 clear z0 z1 z5 zl q0 qy ql
 have q0:=HF5.out.q.cell 0
 have ql:=HF5.out.q.lt
 simp only[List.getElem?_toArray,List.getElem?_cons_zero] at q0
 go_wp2_with fail
 refine HWN.out.mono ?_
 rintro e w6 ⟨rfl,hl6,hm6⟩
 have hf6:=HF5.out.line hm6 hl6 HG1.out
 have HF6:=Lib.hid hf6
 clear q0 ql
 have q0:=hf6.q.cell 0
 have ql:=hf6.q.lt
 have z1:=hf6.k.cell 1
 have z5:=hf6.k.cell 5
 have zl:=hf6.k.lt
 have fk:=hf6.fm.cell k
 have fl:=hf6.fm.lt
 rw[HFM2.out] at fk
 simp only[List.getElem?_toArray,List.getElem?_cons_zero,List.getElem?_cons_succ] at q0 z1 z5
 clear hf6 hl6 hm6 HWN HF5 HW5 HF4 HW4
 have hcall:=HFL.out w6 b vt HF6.out.ln HF6.out.g
 have HCALL:=Lib.hid hcall
 clear hcall HFL
 clear q0
 have k0:=HF6.out.q.cell 0
 have ky0:=HF6.out.q.frozen 0
 have k1:=HF6.out.q.cell 1
 have ky1:=HF6.out.q.frozen 1
 have k2:=HF6.out.q.cell 2
 have ky2:=HF6.out.q.frozen 2
 have k3:=HF6.out.q.cell 3
 have ky3:=HF6.out.q.frozen 3
 have k4:=HF6.out.q.cell 4
 have ky4:=HF6.out.q.frozen 4
 have k5:=HF6.out.q.cell 5
 have ky5:=HF6.out.q.frozen 5
 have k6:=HF6.out.q.cell 6
 have ky6:=HF6.out.q.frozen 6
 have k7:=HF6.out.q.cell 7
 have ky7:=HF6.out.q.frozen 7
 have k8:=HF6.out.q.cell 8
 have ky8:=HF6.out.q.frozen 8
 have k9:=HF6.out.q.cell 9
 have ky9:=HF6.out.q.frozen 9
 have k10:=HF6.out.q.cell 10
 have ky10:=HF6.out.q.frozen 10
 have kl:=HF6.out.q.lt
 simp only[List.getElem?_toArray,List.getElem?_cons_zero,List.getElem?_cons_succ] at k0 k1 k2 k3 k4 k5 k6 k7 k8 k9 k10
 go_wp2_with fail
 refine HCALL.out.mono ?_
 rintro e w7 ⟨cells,cc,S7,rfl,hown,hl7,hg7,hm7,hfr⟩
 obtain⟨o1,o2,o3,o4,o5,d1,d2,d3,d4,d5,rfl⟩:=hown.form
 have hf7:=HF6.out.line hm7 hl7 hg7
 have hsz:w.heap.size<=w6.heap.size:=HF6.out.bl.size
 have hol:=hown.low hsz
 have hel:=end_law hfr hg7
 have HEL:=Lib.hid hel
 have HOL:=Lib.hid hol
 have HF7:=Lib.hid hf7
 clear hown hl7 hm7 hfr hol hf7 hel HCALL HF6 k0 ky0 k1 ky1 k2 ky2 k3 ky3 k4 ky4 k5 ky5 k6 ky6 k7 ky7 k8 ky8 k9 ky9 k10 ky10 kl ql z1 z5 zl fk fl
 go_wp2_with (refine wpList_store_blk rfl 39 _ _ rfl (w3.heap.size+1) 39 _ _ rfl rfl HF7.out.q (by kernel_rfl) rfl (by simp [Value.oneCell']) ?_)
 intro w8 hb8 hm8 hz8
 have hf8:=HF7.out.put hb8 hm8
 have m8:MT 0 [39] w7 w8:=MT.ofMod hm8 HF7.out.q (by simp) (Nat.zero_le _)
 have hol8:=HOL.out.mt m8 (by decide) (by decide) (by decide) (by decide) (by decide) (by decide)
 have hwz:=want_ln hf8.ln hf8.g 0 []
 have HWZ:=Lib.hid hwz
 have HF8:=Lib.hid hf8
 have HO8:=Lib.hid hol8
 clear hb8 hm8 hz8 hf8 m8 hol8 hwz HF7 HOL
 go_wp2_with fail
 refine HWZ.out.mono ?_
 rintro e w9 ⟨rfl,hl9,hm9⟩
 have hol9:=HO8.out.mt hm9 (by decide) (by decide) (by decide) (by decide) (by decide) (by decide)
 have HO9:=Lib.hid hol9
 cases hq9:endC P with
 | bad a f =>
   have hre:=HRES.out
   rw[hq9] at hre
   subst hre
   have hel:=HEL.out
   rw[hq9] at hel
   obtain⟨hs9,hfn⟩:=hel
   rw[hs9] at hl9
   have hf9:=HF8.out.line hm9 hl9 hfn
   have hfn1:(f != 0)=true:=by simpa using hfn
   obtain⟨tb9,ib9,hld⟩:=ln_bad hl9
   have e2:=hld.blk.cell 2
   have e3:=hld.blk.cell 3
   have hel:=hld.blk.lt
   simp only[List.getElem?_toArray,List.getElem?_cons_zero,List.getElem?_cons_succ] at e2 e3
   have hr1:=hf9.r
   have HB1:=Lib.hid (bdrew hf9.bl)
   have hself:=blk11_self hr1
   have hrd:=hr1.drew
   have HRD:=Lib.hid hrd
   have hS2:(w9.drew).cell? ⟨b,2,none⟩=some (.int .i64 a):=e2
   have hS3:(w9.drew).cell? ⟨b,3,none⟩=some (.int .i64 f):=e3
   have r0:=hr1.cell 0
   have ry0:=hr1.frozen 0
   have r1:=hr1.cell 1
   have ry1:=hr1.frozen 1
   have r2:=hr1.cell 2
   have ry2:=hr1.frozen 2
   have r3:=hr1.cell 3
   have ry3:=hr1.frozen 3
   have r4:=hr1.cell 4
   have ry4:=hr1.frozen 4
   have r5:=hr1.cell 5
   have ry5:=hr1.frozen 5
   have r6:=hr1.cell 6
   have ry6:=hr1.frozen 6
   have r7:=hr1.cell 7
   have ry7:=hr1.frozen 7
   have r8:=hr1.cell 8
   have ry8:=hr1.frozen 8
   have r9:=hr1.cell 9
   have ry9:=hr1.frozen 9
   have r10:=hr1.cell 10
   have ry10:=hr1.frozen 10
   have rl:=hr1.lt
   simp only[List.getElem?_toArray,List.getElem?_cons_zero,List.getElem?_cons_succ] at r0 r1 r2 r3 r4 r5 r6 r7 r8 r9 r10
   have hT2:((((((((((((w9).setCell ⟨w.heap.size,0,none⟩ (.int .i64 0)).setCell ⟨w.heap.size,1,none⟩ (.string ⟨#[]⟩)).setCell ⟨w.heap.size,2,none⟩ (.slice none 0 0)).setCell ⟨w.heap.size,3,none⟩ (.string ⟨#[]⟩)).setCell ⟨w.heap.size,4,none⟩ (.slice none 0 0)).setCell ⟨w.heap.size,5,none⟩ (.slice none 0 0)).setCell ⟨w.heap.size,6,none⟩ (.slice none 0 0)).setCell ⟨w.heap.size,7,none⟩ (.string ⟨#[]⟩)).setCell ⟨w.heap.size,8,none⟩ (.int .i64 0)).setCell ⟨w.heap.size,9,none⟩ (.int .i64 0)).setCell ⟨w.heap.size,10,none⟩ (.slice none 0 0)).drew.cell? ⟨b,2,none⟩=some (.int .i64 a):=by rw[hself];exact hS2
   have hT3:((((((((((((w9).setCell ⟨w.heap.size,0,none⟩ (.int .i64 0)).setCell ⟨w.heap.size,1,none⟩ (.string ⟨#[]⟩)).setCell ⟨w.heap.size,2,none⟩ (.slice none 0 0)).setCell ⟨w.heap.size,3,none⟩ (.string ⟨#[]⟩)).setCell ⟨w.heap.size,4,none⟩ (.slice none 0 0)).setCell ⟨w.heap.size,5,none⟩ (.slice none 0 0)).setCell ⟨w.heap.size,6,none⟩ (.slice none 0 0)).setCell ⟨w.heap.size,7,none⟩ (.string ⟨#[]⟩)).setCell ⟨w.heap.size,8,none⟩ (.int .i64 0)).setCell ⟨w.heap.size,9,none⟩ (.int .i64 0)).setCell ⟨w.heap.size,10,none⟩ (.slice none 0 0)).drew.cell? ⟨b,3,none⟩=some (.int .i64 f):=by rw[hself];exact hS3
   have HSELF:=Lib.hid hself
   clear hl9 hm9 hol9 hld hr1 hself hrd hf9 hs9 hfn HEL HF8 HWZ hq9 HRES
   go_wp2_with fail
   go_region_held3 (fun w'=>w'.cell? ⟨b,2,none⟩=some (.int .i64 a)/\w'.cell? ⟨b,3,none⟩=some (.int .i64 f)) (first | go_keep | (exact⟨hS2,hS3⟩) | (exact⟨hT2,hT3⟩)) (fail)
   all_goals
    rename_i KK hKK hHeld
    clear hHeld
    simp only[Exit.then]
    refine hKK _ _ (wp_ret ?_)
    first | rw[HSELF.out] | skip
    show bodyPost Tryz.prog Tryz.f14 (CmdPost w (.bad a f)) Exit.ret _ _
    exact refCmd_ret HRD.out rfl rfl rfl ⟨rfl,HB1.out⟩
 | ok x9 r9 =>
   have hre:=HRES.out
   rw[hq9] at hre
   subst hre
   have hel:=HEL.out
   rw[hq9] at hel
   obtain⟨⟨c9,hs9⟩,rfl⟩:=hel
   have hf9:DE w w9 (w3.heap.size+1) _:=⟨HF8.out.r.mt hm9 (by decide),HF8.out.q.mt hm9 (by decide),HF8.out.bl.trans ((hm9.mono (fun _ q=>q) (Nat.le_of_lt HF8.out.hb)).below HF8.out.bl.size)⟩
   rw[hs9] at hl9
   obtain⟨tb9,ib9,pb9,hld,_⟩:=ln_ok hl9
   have e3:=hld.blk.cell 3
   have hel:=hld.blk.lt
   simp only[List.getElem?_toArray,List.getElem?_cons_zero,List.getElem?_cons_succ] at e3
   have HF9:=Lib.hid hf9
   have HR:=Lib.hid hf9.r
   clear hl9 hm9 hol9 hld hf9 hs9 hg7 HEL HF8 HWZ hq9 HRES
   have k0:=HF9.out.q.cell 0
   have ky0:=HF9.out.q.frozen 0
   have k1:=HF9.out.q.cell 1
   have ky1:=HF9.out.q.frozen 1
   have k2:=HF9.out.q.cell 2
   have ky2:=HF9.out.q.frozen 2
   have k3:=HF9.out.q.cell 3
   have ky3:=HF9.out.q.frozen 3
   have k4:=HF9.out.q.cell 4
   have ky4:=HF9.out.q.frozen 4
   have k5:=HF9.out.q.cell 5
   have ky5:=HF9.out.q.frozen 5
   have k6:=HF9.out.q.cell 6
   have ky6:=HF9.out.q.frozen 6
   have k7:=HF9.out.q.cell 7
   have ky7:=HF9.out.q.frozen 7
   have k8:=HF9.out.q.cell 8
   have ky8:=HF9.out.q.frozen 8
   have k9:=HF9.out.q.cell 9
   have ky9:=HF9.out.q.frozen 9
   have k10:=HF9.out.q.cell 10
   have ky10:=HF9.out.q.frozen 10
   have kl:=HF9.out.q.lt
   simp only[List.getElem?_toArray,List.getElem?_cons_zero,List.getElem?_cons_succ] at k0 k1 k2 k3 k4 k5 k6 k7 k8 k9 k10
   go_wp2_with (refine wpList_store_blk rfl 39 _ _ rfl w.heap.size 39 _ _ rfl rfl HF9.out.r (by kernel_rfl) rfl (by simp [Value.oneCell']) ?_)
   intro wz hbz hmz hzz
   have mz:MT w.heap.size [39] w9 wz:=MT.ofMod hmz HF9.out.r (by simp) (Nat.le_refl _)
   have HBZ:=Lib.hid hbz
   have HPZ:=Lib.hid (And.intro (CmdOwn.mt HO9.out mz (by decide) (by decide) (by decide) (by decide) (by decide) (by decide)) (HF9.out.bl.trans (mz.below HF9.out.bl.size)))
   clear hbz hmz hzz mz k0 ky0 k1 ky1 k2 ky2 k3 ky3 k4 ky4 k5 ky5 k6 ky6 k7 ky7 k8 ky8 k9 ky9 k10 ky10 kl
   go_wp2_with fail
   exact refCmd_ret HBZ.out rfl rfl rfl ⟨_,rfl,HPZ.out.1,HPZ.out.2⟩
end Go.Proofs.YtamjadghncnbcaaGreatDoor
