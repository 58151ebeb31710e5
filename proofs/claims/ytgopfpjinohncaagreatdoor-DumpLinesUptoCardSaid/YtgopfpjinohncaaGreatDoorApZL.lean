/- append of a whole row that can be read, outside a region: no program in sight. slices.Clone at osier/api.Value, walked (printed by cln.py). slices.Clone at osier/api.Column, walked (printed by cln.py). schema.clone, New, Find, walked. schema.Fits, Add, walked. schema.Add, walked. -/
import Derived.Test.YtgopfpjinohncaaGreatDoorGcL
import Derived.Test.YtgopfpjinohncaaGreatDoorRxL
import Derived.Test.YtgopfpjinohncaaGreatDoorGmL
import Derived.Test.YtgopfpjinohncaaGreatDoorKfL
import Derived.Test.YtgopfpjinohncaaGreatDoorKaL
import Derived.Test.YtgopfpjinohncaaGreatDoorLbL
import Derived.WalkSpells
import Derived.Lib.SliceRun
import Derived.Deep.RegionLaw
import Derived.Deep.RegionHeld3
import Derived.Deep.RegionWith
import Derived.OwnWalk
namespace Go.Proofs.YtgopfpjinohncaaGreatDoor
open Go.RowKit
set_option linter.unusedVariables false
variable {P : Program}
theorem wpList_append_row {w:World} {ops:Array Oper} {rest:List Oper} {a:Act} {Q:Exit->Act->World->Prop} (o:Oper) (hgd:o.guard=none) (s x:Operand) (t:TypeId)
 (ho:o.op=.call { callee:=.builtin .append,args:=#[s,x],argTypes:=#[t,t] })
 (base:Nat) (e:TypeId) (i:TypeInfo) (z:Value) (size bytes:Nat) (ht:P.underlying t=some (.slice e)) (hi:P.info? e=some i) (hz:i.zero=some z)
 (hsize:i.size=size) (hby:i.bytes=bytes) (hzs:z.cells.size=size) (hsz:0<size)
 (v:Value) (n:Nat) (cur:List Value) (hs:a.eval s=v) (hown:w.ownsRow base e size v n cur)
 (xv:Value) (hx:a.eval x=xv) (xs:List (List Value)) (hrow:RowAt w xv size xs) (hl:∀ x∈xs,x.length=size) (h1:∀ x∈xs,∀ u∈x,u.oneCell'=true)
 (h63:n+xs.length<=maxLen) (hbytes:(n+xs.length) * bytes<=140737488355328) (hbase:base<=w.heap.size)
 (h:∀ v' w',w'.ownsRow base e size v' (n+xs.length) (cur++xs.flatten)->w.grownBy w' v.ownBlock->wpList P ops Q rest (a.put o.dst v') w'):wpList P ops Q (o::rest) a w :=
 wpList_plain hgd fun _ hK=>wp_append_row s x t ho base e i z size bytes ht hi hz hsize hby hzs hsz v n cur hs hown xv hx xs hrow hl h1 h63 hbytes hbase fun v' w' h2 h3=>hK _ _ (h v' w' h2 h3)
theorem Tryz.infoC_Val:(Tryz.prog.info? 111).map (fun i=>(i.zero,i.size,i.bytes))=some (some (.agg #[.int .i64 0,.int .i64 0,.string ⟨#[]⟩]),3,32):=by kernel_rfl
set_option maxHeartbeats 2000000 in
set_option maxRecDepth 100000 in
theorem clone_Val (w:World) (v:Value) (xs:List (List Value)) (h:RowAt w v 3 xs) (hl:∀ x∈xs,x.length=3) (h1:∀ x∈xs,∀ u∈x,u.oneCell'=true) (hb:xs.length * 32<=140737488355328) :
 Calls Tryz.prog 96 #[v] w fun e w'=>∃ v',e=.returned v'/\w'.ownsRow w.heap.size 111 3 v' xs.length xs.flatten/\Below w.heap.size w w':=by
 have heq:=fun (w:World) (a:Option Addr) (n c:Nat)=>Lib.run_eql_slice_nil (P:=Tryz.prog) w 59 111 a n c 0 0 Tryz.underlying59
 obtain⟨i0,hi0,hz0,hz1,hz2⟩:=info_parts Tryz.infoC_Val
 obtain⟨ad,cap,rfl,hnc,hcm⟩:=h.form
 have hln:=h.len
 have he0:(w.alloc (.cells #[] 111)).ownsRow w.heap.size 111 3 (.slice (some ⟨w.heap.size,0,none⟩) 0 0) 0 [] :=
  ⟨rfl,.inr ⟨w.heap.size,0,#[],rfl,Nat.le_refl _,heap_alloc_new w _,Nat.le_refl _,Nat.zero_le _,rfl,rfl⟩⟩
 by_cases h0:xs=[]
 ·subst h0
  cases ad with
  | none =>
    clear h hl h1 hb he0 hnc hcm hln
    go_enter Tryz.func96,Tryz.ntmps96
    go_wp2_with fail
    go_ret
    exact⟨_,rfl,World.ownsRow_nil _ _ _ _,Below.refl _ _⟩
  | some ad =>
    have HE0:=Lib.hid he0
    clear h hl h1 hb he0 hnc hcm hln
    go_enter Tryz.func96,Tryz.ntmps96
    go_wp2_with fail
    go_ret
    exact⟨_,rfl,HE0.out,balloc (Below.refl _ _) _⟩
 ·have hpos:=List.length_pos_iff.2 h0
  obtain⟨x0,hx0⟩:∃ x0,xs[0]? = some x0:=⟨xs[0]'hpos,List.getElem?_eq_getElem hpos⟩
  obtain⟨b,off,cap2,hv,_,_,hbl,_⟩:=h.get hx0
  simp only[Value.slice.injEq,true_and] at hv
  obtain⟨rfl,rfl⟩:=hv
  have HR:=Lib.hid (h.keep (balloc (Below.refl w.heap.size w) (.cells #[] 111)))
  have HL:=Lib.hid hl
  have HO:=Lib.hid h1
  have HE0:=Lib.hid he0
  have hn0:¬ xs.length=0:=by omega
  generalize hN:xs.length=n at *
  have HN:=Lib.hid hN
  clear h hl h1 he0 hx0 hN h0
  unfold maxLen at hcm
  go_enter Tryz.func96,Tryz.ntmps96
  go_wp2_with (at_builtin;refine wpList_append_row _ rfl (.tmp 5) (.tmp 6) 59 rfl w.heap.size 111 i0 (.agg #[.int .i64 0,.int .i64 0,.string ⟨#[]⟩]) 3 32 Tryz.underlying59 hi0 hz0 hz1 hz2 rfl (by decide) (.slice (some ⟨w.heap.size,0,none⟩) 0 0) 0 [] rfl HE0.out _ rfl xs HR.out HL.out HO.out ?c1 ?c2 (by simp) ?_)
  case c1=>rw[HN.out];unfold maxLen;omega
  case c2=>rw[HN.out];omega
  intro v1 w1 hown1 hgrow1
  rw[HN.out] at hown1
  have hb1:Below w.heap.size w w1:=(balloc (Below.refl _ _) _).trans (((Mod.refl (fun k=>k=w.heap.size) _).grown hgrow1 (fun k hk _=>by simp [Value.ownBlock] at hk;exact hk.symm)).below (by simp) (fun k hk=>by omega))
  have HO1:Hid (w1.ownsRow w.heap.size 111 3 v1 n xs.flatten):=Lib.hid (by simpa using hown1)
  have HB1:=Lib.hid hb1
  clear hown1 hgrow1 hb1
  go_wp2_with fail
  go_ret
  exact⟨_,rfl,HO1.out,HB1.out⟩
theorem Tryz.infoC_Col:(Tryz.prog.info? 109).map (fun i=>(i.zero,i.size,i.bytes))=some (some (.agg #[.string ⟨#[]⟩,.int .i64 0]),2,24):=by kernel_rfl
set_option maxHeartbeats 2000000 in
set_option maxRecDepth 100000 in
theorem clone_Col (w:World) (v:Value) (xs:List (List Value)) (h:RowAt w v 2 xs) (hl:∀ x∈xs,x.length=2) (h1:∀ x∈xs,∀ u∈x,u.oneCell'=true) (hb:xs.length * 24<=140737488355328) :
 Calls Tryz.prog 245 #[v] w fun e w'=>∃ v',e=.returned v'/\w'.ownsRow w.heap.size 109 2 v' xs.length xs.flatten/\Below w.heap.size w w':=by
 have heq:=fun (w:World) (a:Option Addr) (n c:Nat)=>Lib.run_eql_slice_nil (P:=Tryz.prog) w 55 109 a n c 0 0 Tryz.underlying55
 obtain⟨i0,hi0,hz0,hz1,hz2⟩:=info_parts Tryz.infoC_Col
 obtain⟨ad,cap,rfl,hnc,hcm⟩:=h.form
 have hln:=h.len
 have he0:(w.alloc (.cells #[] 109)).ownsRow w.heap.size 109 2 (.slice (some ⟨w.heap.size,0,none⟩) 0 0) 0 [] :=
  ⟨rfl,.inr ⟨w.heap.size,0,#[],rfl,Nat.le_refl _,heap_alloc_new w _,Nat.le_refl _,Nat.zero_le _,rfl,rfl⟩⟩
 by_cases h0:xs=[]
 ·subst h0
  cases ad with
  | none =>
    clear h hl h1 hb he0 hnc hcm hln
    go_enter Tryz.func245,Tryz.ntmps245
    go_wp2_with fail
    go_ret
    exact⟨_,rfl,World.ownsRow_nil _ _ _ _,Below.refl _ _⟩
  | some ad =>
    have HE0:=Lib.hid he0
    clear h hl h1 hb he0 hnc hcm hln
    go_enter Tryz.func245,Tryz.ntmps245
    go_wp2_with fail
    go_ret
    exact⟨_,rfl,HE0.out,balloc (Below.refl _ _) _⟩
 ·have hpos:=List.length_pos_iff.2 h0
  obtain⟨x0,hx0⟩:∃ x0,xs[0]? = some x0:=⟨xs[0]'hpos,List.getElem?_eq_getElem hpos⟩
  obtain⟨b,off,cap2,hv,_,_,hbl,_⟩:=h.get hx0
  simp only[Value.slice.injEq,true_and] at hv
  obtain⟨rfl,rfl⟩:=hv
  have HR:=Lib.hid (h.keep (balloc (Below.refl w.heap.size w) (.cells #[] 109)))
  have HL:=Lib.hid hl
  have HO:=Lib.hid h1
  have HE0:=Lib.hid he0
  have hn0:¬ xs.length=0:=by omega
  generalize hN:xs.length=n at *
  have HN:=Lib.hid hN
  clear h hl h1 he0 hx0 hN h0
  unfold maxLen at hcm
  go_enter Tryz.func245,Tryz.ntmps245
  go_wp2_with (at_builtin;refine wpList_append_row _ rfl (.tmp 5) (.tmp 6) 55 rfl w.heap.size 109 i0 (.agg #[.string ⟨#[]⟩,.int .i64 0]) 2 24 Tryz.underlying55 hi0 hz0 hz1 hz2 rfl (by decide) (.slice (some ⟨w.heap.size,0,none⟩) 0 0) 0 [] rfl HE0.out _ rfl xs HR.out HL.out HO.out ?c1 ?c2 (by simp) ?_)
  case c1=>rw[HN.out];unfold maxLen;omega
  case c2=>rw[HN.out];omega
  intro v1 w1 hown1 hgrow1
  rw[HN.out] at hown1
  have hb1:Below w.heap.size w w1:=(balloc (Below.refl _ _) _).trans (((Mod.refl (fun k=>k=w.heap.size) _).grown hgrow1 (fun k hk _=>by simp [Value.ownBlock] at hk;exact hk.symm)).below (by simp) (fun k hk=>by omega))
  have HO1:Hid (w1.ownsRow w.heap.size 109 2 v1 n xs.flatten):=Lib.hid (by simpa using hown1)
  have HB1:=Lib.hid hb1
  clear hown1 hgrow1 hb1
  go_wp2_with fail
  go_ret
  exact⟨_,rfl,HO1.out,HB1.out⟩
theorem col_oneC (cs:List Col):∀ x∈cs.map Col.cells,∀ u∈x,u.oneCell'=true:=by
 intro x hx u hu
 simp at hx
 obtain⟨t,_,rfl⟩:=hx
 simp only[Col.cells,List.mem_cons,List.not_mem_nil,or_false] at hu
 rcases hu with rfl | rfl<;>rfl
theorem set2_facts {w1:World} {y:Nat} {tq:TypeId} {a b a' b':Value} (hz:Blk w1 y tq #[a',b']) :
 Blk ((w1.setCell ⟨y,0,none⟩ a).setCell ⟨y,1,none⟩ b) y tq #[a,b]/\Mod (fun k=>k=y) w1 ((w1.setCell ⟨y,0,none⟩ a).setCell ⟨y,1,none⟩ b):=by
 have z2:=(hz.set_ 0 a).set_ 1 b
 refine⟨by simpa using z2,((Mod.refl (fun k=>k=y) w1).setCell (p:=⟨y,0,none⟩) (fun _=>rfl) a).setCell (p:=⟨y,1,none⟩) (fun _=>rfl) b⟩
set_option maxHeartbeats 1000000 in
set_option maxRecDepth 100000 in
theorem sclone_ret {g:Nat} {W:World} {x y:Value} {T:Array Value} {Post:Ending->World->Prop} (h:Blk W g 57 #[x,y]) (h2:T[2]?.getD undef=.pointer (some ⟨g,0,none⟩))
 (hP:Post (.returned (.agg #[x,y])) W):bodyPost Tryz.prog Tryz.f184 Post Exit.ret { tmps:=T,defers:=[] } W:=by
 have c0:=h.cell 0
 have c1:=h.cell 1
 simp only[List.getElem?_toArray,List.getElem?_cons_zero,List.getElem?_cons_succ] at c0 c1
 exact bodyPost_ret (v:=.agg #[x,y]) (by simp [results,Tryz.results184,go_sem,h2,c0,c1]) rfl hP
set_option maxHeartbeats 4000000 in
set_option maxRecDepth 100000 in
theorem sclone_any (w:World) (nm:ByteArray) (v:Value) (cs:List Col) (h:ColsAt w v cs) (hl:cs.length<=5864062014634) :
 Calls Tryz.prog 184 #[.agg #[.string nm,v]] w fun e w'=>∃ u,e=.returned (.agg #[.string nm,u])/\ColsOwn w.heap.size w' u cs/\Below w.heap.size w w':=by
 have hcl:=fun W (hb:Below w.heap.size w W)=>clone_Col W v (cs.map Col.cells) (RowAt.keep h hb) (col_len cs) (col_oneC cs) (by rw[List.length_map];omega)
 rw[cols_flat,List.length_map] at hcl
 obtain⟨ad,cap,rfl,hnc,hcm⟩:=h.form
 have bx:=(Blk.new w 57 #[.string nm,.slice ad cs.length cap]).alloc (.cells #[.string ⟨#[]⟩,.slice none 0 0] 57)
 have br:=blkNew1 w (.cells #[.string nm,.slice ad cs.length cap] 57) 57 #[.string ⟨#[]⟩,.slice none 0 0]
 have b0:Below w.heap.size w ((w.alloc (.cells #[.string nm,.slice ad cs.length cap] 57)).alloc (.cells #[.string ⟨#[]⟩,.slice none 0 0] 57)):=balloc (balloc (Below.refl _ _) _) _
 have HCL:=Lib.hid hcl
 have BX:=Lib.hid bx
 have BR:=Lib.hid br
 have B0:=Lib.hid b0
 clear h hcl bx br b0
 generalize hN:cs.length=n at *
 have HN:=Lib.hid hN
 clear hN
 go_enter Tryz.func184,Tryz.ntmps184
 go_wp2_with fail
 have x0:=BX.out.cell 0
 have x1:=BX.out.cell 1
 simp only[List.getElem?_toArray,List.getElem?_cons_zero,List.getElem?_cons_succ] at x0 x1
 have hxl:=BX.out.lt
 go_region_law (go_simp;go_at_call 245;refine (HCL.out _ (bdrew B0.out)).mono ?_;rintro e w1 ⟨v1,rfl,hown1,hb1⟩;obtain⟨va,vc,rfl⟩:=own_sl hown1;have xb:=BX.out.drew.below hb1 (by simp<;>omega);have rb:=BR.out.drew.below hb1 (by simp<;>omega);have y0:=xb.cell 0;have yl:=xb.lt;have r0:=rb.cell 0;have r1:=rb.cell 1;have f0:=rb.frozen 0;have f1:=rb.frozen 1;have rl:=rb.lt;simp only[List.getElem?_toArray,List.getElem?_cons_zero,List.getElem?_cons_succ] at y0 r0 r1;have hlow:=World.ownsRow.low hown1 (show w.heap.size<=_ by simp<;>omega);have bw:=(bdrew B0.out).trans (hb1.mono (by simp<;>omega));have HRB:=Lib.hid rb;have HLW:=Lib.hid hlow;have HBW:=Lib.hid bw;clear xb rb hlow bw hown1 hb1)
 all_goals
  have hs:=set2_facts (a:=.string nm) (b:=.slice va n vc) HRB.out
  have HS1:=Lib.hid hs.1
  have HS2:=Lib.hid hs.2
  clear hs r0 r1 f0 f1 y0
  go_wp2_with (exact sclone_ret HS1.out rfl ⟨_,rfl,by
   show World.ownsRow _ _ _ _ _ _ _
   rw[HN.out]
   exact (MT.ofMod HS2.out HRB.out (by simp:57∈[57]) (Nat.zero_le _)).ownsRow HLW.out (by decide),Mod.own HBW.out HS2.out (by omega)⟩)
theorem new_ok (m:Int) (w:World) (h1:1<=m) (h8:m<=8) :
 Calls Tryz.prog 102 #[.int .i64 m] w fun e w'=>e=.returned (.tuple #[.pointer (some ⟨w.heap.size,0,none⟩),.int .i64 0])/\w'=w.alloc (.cells #[.int .i64 m,.slice none 0 0] 266):=by
 have d1:decide (m<1)=false:=by simp;omega
 have d2:decide (8<m)=false:=by simp;omega
 go_enter Tryz.func102,Tryz.ntmps102
 go_wp2_with fail
 go_ret2
 exact⟨rfl,rfl⟩
def SmallD (d:List Rln):Prop:=d.length<=8/\∀ r∈d,r.cols.length<=5
def SchAt (Q:Nat->Prop) (w:World) (b:Nat) (m:Int) (d:List Rln):Prop:=∃ sv,Blk w b 266 #[.int .i64 m,sv]/\RelsOwn Q w sv d/\SmallD d
section
variable {Q Q' F : Nat -> Prop} {w w' : World} {b : Nat} {m : Int} {d : List Rln}
theorem SchAt.mod (h:SchAt Q w b m d) (hm:Mod F w w') (hb:¬ F b) (hn:∀ k,Q k->¬ F k):SchAt Q w' b m d:=by
 obtain⟨sv,h1,h2,h3⟩:=h
 exact⟨sv,h1.mod hm hb,h2.mod hm hn,h3⟩
theorem SchAt.keep (h:SchAt Q w b m d) (hb:Below w.heap.size w w'):SchAt Q w' b m d:=h.mod (Mod.ofBelow (F:=fun _=>False) hb) (fun f=>f) (fun _ _ f=>f)
theorem SchAt.mono (h:SchAt Q w b m d) (hq:∀ k,k<w.heap.size->Q k->Q' k):SchAt Q' w b m d:=by
 obtain⟨sv,h1,h2,h3⟩:=h
 exact⟨sv,h1,h2.mono hq,h3⟩
theorem SmallD.at {sv:Value} (h3:SmallD d) (h:RelsOwn Q w sv d):RelsAt w sv d:=h.at (by have:=h3.1;omega) (fun r hr=>by have:=h3.2 r hr;omega)
theorem SchAt.new (w:World) (m:Int):SchAt Q (w.alloc (.cells #[.int .i64 m,.slice none 0 0] 266)) w.heap.size m [] :=
 ⟨_,Blk.new _ _ _,⟨[],World.ownsRow_nil _ _ _ _,fun k hk=>by simp [Value.ownBlock] at hk,trivial⟩,by simp [SmallD]⟩
theorem SchAt.lt (h:SchAt Q w b m d):b<w.heap.size:=by
 obtain⟨sv,h1,_⟩:=h
 exact h1.lt
end
set_option maxHeartbeats 1000000 in
set_option maxRecDepth 100000 in
theorem find_ret {g:Nat} {W:World} {x y z:Value} {T:Array Value} {Post:Ending->World->Prop} (h:Blk W g 57 #[x,y]) (h2:T[4]?.getD undef=.pointer (some ⟨g,0,none⟩)) (h3:T[5]?.getD undef=z)
 (hP:Post (.returned (.tuple #[.agg #[x,y],z])) W):bodyPost Tryz.prog Tryz.f234 Post Exit.ret { tmps:=T,defers:=[] } W:=by
 have c0:=h.cell 0
 have c1:=h.cell 1
 simp only[List.getElem?_toArray,List.getElem?_cons_zero,List.getElem?_cons_succ] at c0 c1
 exact bodyPost_ret (v:=.tuple #[.agg #[x,y],z]) (by simp [results,Tryz.results234,go_sem,h2,h3,c0,c1]) rfl hP
def FindP (w:World) (d:List Rln) (x:List UInt8) (e:Ending) (w':World):Prop :=
 (plI d x = -1/\e=.returned (.tuple #[.agg #[.string ⟨#[]⟩,.slice none 0 0],.bool false])/\Below w.heap.size w w') ∨
 ∃ (k:Nat) (r:Rln) (u:Value),plI d x=k/\d[k]? = some r/\r.name=x/\e=.returned (.tuple #[.agg #[.string ⟨r.name.toArray⟩,u],.bool true])/\ColsOwn w.heap.size w' u r.cols/\Below w.heap.size w w'
set_option maxHeartbeats 8000000 in
set_option maxRecDepth 100000 in
theorem findL_any {Q:Nat->Prop} (w:World) (b:Nat) (m:Int) (d:List Rln) (x:List UInt8) (h:SchAt Q w b m d) :
 Calls Tryz.prog 234 #[.pointer (some ⟨b,0,none⟩),.string ⟨x.toArray⟩] w (FindP w d x):=by
 obtain⟨sv,hb,ho,hs⟩:=h
 have hat:=hs.at ho
 have hd8:=hs.1
 have hd5:=hs.2
 obtain⟨ad,cap,rfl,hnc,hcm⟩:=hat.form
 unfold maxLen at hcm
 have hres:=Blk.new w 57 #[.string ⟨#[]⟩,.slice none 0 0]
 have hb0:Below w.heap.size w (w.alloc (.cells #[.string ⟨#[]⟩,.slice none 0 0] 57)):=balloc (Below.refl _ _) _
 have hx1:=(hb.alloc (.cells #[.string ⟨#[]⟩,.slice none 0 0] 57)).cell 1
 have hxl:=(hb.alloc (.cells #[.string ⟨#[]⟩,.slice none 0 0] 57)).lt
 simp only[List.getElem?_toArray,List.getElem?_cons_zero,List.getElem?_cons_succ] at hx1
 have HR:=Lib.hid hat
 have HRES:=Lib.hid hres
 have HB0:=Lib.hid hb0
 have H5:=Lib.hid hd5
 clear hb ho hs hat hres hb0 hd5
 generalize hN:d.length=n at *
 have HN:=Lib.hid hN
 clear hN
 go_enter Tryz.func234,Tryz.ntmps234
 go_wp2_with fail
 clear hx1 hxl
 go_loopw [13] (fun i wr=>∃ k:Nat,k<=n/\i=.int .i64 k/\Hid (x ∉ (d.take k).map (·.name))/\Hid (Below w.heap.size w wr)/\Hid (Blk wr w.heap.size 57 #[.string ⟨#[]⟩,.slice none 0 0])) (fun i _=>n - (intOf i).toNat)
 case atStart=>exact⟨0,Nat.zero_le _,rfl,Lib.hid (by simp),HB0,HRES⟩
 case round =>
  obtain⟨k,hk,rfl,HNI,BW,RB⟩:=hrel
  obtain⟨wo,rfl⟩:∃ wo:World,wo=wr:=⟨_,rfl⟩
  by_cases hlt:k<n
  ·obtain⟨r,hr⟩:∃ r,d[k]? = some r:=⟨d[k]'(by rw[HN.out];exact hlt),List.getElem?_eq_getElem (by rw[HN.out];exact hlt)⟩
   obtain⟨rb,ro,rcap,cv,hv,_,_,hrl,q0,q1,hcols,hcl⟩:=(HR.out.keep BW.out).get hr
   simp only[HN.out,Value.slice.injEq,true_and] at hv
   obtain⟨rfl,rfl⟩:=hv
   obtain⟨ca,cc,rfl,_,_⟩:=hcols.form
   have hrn:(d.map (·.name))[k]? = some r.name:=by simp [hr]
   have htk:(d.take (k+1)).map (·.name)=(d.take k).map (·.name)++[r.name]:=by
    rw[List.take_add_one,hr]
    simp
   have HTK:=Lib.hid htk
   have HR1:=Lib.hid hr
   have HRN:=Lib.hid hrn
   have hcl2:=sclone_any (wo.alloc (.cells #[.string ⟨r.name.toArray⟩,.slice ca r.cols.length cc] 57)) ⟨r.name.toArray⟩ (.slice ca r.cols.length cc) r.cols (hcols.keep (balloc (Below.refl _ _) _)) hcl
   have HCL:=Lib.hid hcl2
   clear hr hrn htk hcols hcl2
   by_cases he:r.name=x
   ·have hi:plI d x=k:=by
     unfold plI
     rw[<-he]
     refine idxI_hit HRN.out ?_
     rw[he,<-List.map_take]
     exact HNI.out
    have hq:(r.name == x)=true:=by rw[he];exact beq_self_eq_true _
    have HI:=Lib.hid hi
    have HE:=Lib.hid he
    clear hi he
    generalize r.cols.length=cn at *
    go_wp2_with fail
    refine HCL.out.mono ?_
    rintro e w2 ⟨u,rfl,hown,hb2⟩
    obtain⟨ua,uc,rfl⟩:=own_sl hown
    have hrb2:=(RB.out.alloc (.cells #[.string ⟨r.name.toArray⟩,.slice ca cn cc] 57)).below hb2 (by have:=RB.out.lt;simp;omega)
    have HRB2:=Lib.hid hrb2
    have HO2:=Lib.hid hown
    have HB2:=Lib.hid (BW.out.trans (((balloc (Below.refl wo.heap.size wo) (.cells #[.string ⟨r.name.toArray⟩,.slice ca cn cc] 57)).trans (hb2.mono (by simp))).mono BW.out.size))
    have hbz:=BW.out.size
    clear hrb2 hown hb2
    go_wp2_with (refine wpList_store_blk rfl 57 _ _ rfl w.heap.size 57 _ _ rfl rfl HRB2.out (by kernel_rfl) rfl (by simp [Value.oneCell']) ?_)
    intro w3 hb3 hm3 hz3
    have HB3:=Lib.hid hb3
    have HM3:=Lib.hid hm3
    clear hb3 hm3 hz3
    go_wp2_with (exact find_ret HB3.out rfl rfl (.inr ⟨k,r,_,HI.out,HR1.out,HE.out,rfl,(MT.ofMod HM3.out HRB2.out (by simp:57∈[57]) (Nat.zero_le _)).ownsRow (World.ownsRow.low HO2.out (by simp;omega)) (by decide),Mod.own HB2.out HM3.out (Nat.le_refl _)⟩))
   ·have hq:(r.name == x)=false:=by simpa using he
    have HNI2:=Lib.hid (show x ∉ (d.take (k+1)).map (·.name) by
     rw[HTK.out,List.mem_append,List.mem_singleton]
     rintro (h | h)
     ·exact HNI.out h
     ·exact he h.symm)
    clear he
    go_wp2_with fail
    go_roundw
    case rel=>exact⟨k+1,by omega,by go_num,HNI2,Lib.hid (balloc BW.out _),Lib.hid (RB.out.alloc _)⟩
    case measure=>simp [intOf];omega
  ·obtain rfl:k=n:=by omega
   have hni:=HNI.out
   rw[List.take_of_length_le (by rw[HN.out];exact Nat.le_refl _)] at hni
   have hi:plI d x = -1:=idxI_miss hni
   have HI:=Lib.hid hi
   clear hni hi
   go_wp2_with (refine wpList_store_blk rfl 57 _ _ rfl w.heap.size 57 _ _ rfl rfl RB.out (by kernel_rfl) rfl (by simp [Value.oneCell']) ?_)
   intro w3 hb3 hm3 hz3
   have HB3:=Lib.hid hb3
   have HM3:=Lib.hid hm3
   clear hb3 hm3 hz3
   go_wp2_with (exact find_ret HB3.out rfl rfl (.inl ⟨HI.out,rfl,Mod.own BW.out HM3.out (Nat.le_refl _)⟩))
theorem find_any {Q:Nat->Prop} (w:World) (b:Nat) (m:Int) (d:List Rln) (x:ByteArray) (h:SchAt Q w b m d) :
 Calls Tryz.prog 234 #[.pointer (some ⟨b,0,none⟩),.string x] w (FindP w d x.data.toList):=by
 have:=findL_any w b m d x.data.toList h
 simpa using this
def addE (m:Int) (d:List Rln) (r:Rln):Int:=if chkC r.name r.cols≠0 then chkC r.name r.cols else if r.name∈d.map (·.name) then 85 else if m<=d.length then 84 else 0
def addL (m:Int) (d:List Rln) (r:Rln):List Rln:=if addE m d r=0 then d++[r] else d
theorem addE_chk {m:Int} {d:List Rln} {r:Rln} (h:chkC r.name r.cols≠0):addE m d r=chkC r.name r.cols:=by
 unfold addE
 rw[if_pos h]
theorem addE_taken {m:Int} {d:List Rln} {r:Rln} (h:chkC r.name r.cols=0) (h2:r.name∈d.map (·.name)):addE m d r=85:=by
 unfold addE
 rw[if_neg (by rw[h];decide),if_pos h2]
theorem addE_full {m:Int} {d:List Rln} {r:Rln} (h:chkC r.name r.cols=0) (h2:r.name ∉ d.map (·.name)) (h3:m<=d.length):addE m d r=84:=by
 unfold addE
 rw[if_neg (by rw[h];decide),if_neg h2,if_pos h3]
theorem addE_ok {m:Int} {d:List Rln} {r:Rln} (h:chkC r.name r.cols=0) (h2:r.name ∉ d.map (·.name)) (h3:¬ m<=d.length):addE m d r=0:=by
 unfold addE
 rw[if_neg (by rw[h];decide),if_neg h2,if_neg h3]
theorem plI_none {d:List Rln} {x:List UInt8} (h:plI d x = -1):x ∉ d.map (·.name):=by
 intro hm
 unfold plI idxI at h
 rw[if_pos hm] at h
 omega
theorem addL_same {m:Int} {d:List Rln} {r:Rln} (h:addE m d r≠0):addL m d r=d:=by
 unfold addL
 rw[if_neg h]
theorem addL_more {m:Int} {d:List Rln} {r:Rln} (h:addE m d r=0):addL m d r=d++[r]:=by
 unfold addL
 rw[if_pos h]
def AddP (Q:Nat->Prop) (w:World) (b:Nat) (m:Int) (d:List Rln) (r:Rln) (e:Ending) (w':World):Prop :=
 e=.returned (.int .i64 (addE m d r))/\SchAt (fun k=>Q k∨w.heap.size<=k) w' b m (addL m d r)/\Mod (fun k=>k=b∨Q k) w w'
theorem Tryz.infoRlA:(Tryz.prog.info? 57).map (fun i=>(i.zero,i.size,i.bytes))=some (some (.agg #[.string ⟨#[]⟩,.slice none 0 0]),2,40):=by kernel_rfl
theorem small_add {d:List Rln} {r:Rln} {m:Int} (h:SmallD d) (hm:m<=8) (hc:chkC r.name r.cols=0) (hl:¬ m<=d.length):SmallD (d++[r]):=by
 refine⟨by simp;omega,fun x hx=>?_⟩
 rcases List.mem_append.1 hx with h1 | h1
 ·exact h.2 x h1
 ·simp only[List.mem_singleton] at h1
  subst h1
  exact (chkC_ok hc).2.2.1
theorem RelO.mt {Q:Nat->Prop} {B:Nat} {ts:List TypeId} {w w':World} {row:List Value} {a:Rln} (h:RelO Q w row a) (hm:MT B ts w w') (hn:109 ∉ ts):RelO Q w' row a:=by
 obtain⟨cv,rfl,h2,h3⟩:=h
 exact⟨cv,rfl,hm.ownsRow h2 hn,h3⟩
theorem add_end {Q:Nat->Prop} {w w6 wi:World} {b B g cap:Nat} {m:Int} {d:List Rln} {nm:ByteArray} {cs:List Col} {sv u6:Value} {rows:List (List Value)} {o:Obj}
 (hB:Blk w6 b 266 #[.int .i64 m,sv]) (hR:w6.ownsRow 0 57 2 sv d.length rows.flatten) (hq:InQ Q sv) (hA:All2 (RelO Q w6) rows d)
 (ho:ColsOwn B w6 u6 cs) (hbw:Below w.heap.size w w6) (hwB:w.heap.size<=B)
 (hown:wi.ownsRow 0 57 2 (.slice (some ⟨g,0,none⟩) (d.length+1) cap) (d.length+1) (rows.flatten++[.string nm,u6])) (hg:(w6.alloc o).grownBy wi sv.ownBlock) (hat:sv.ownBlock=some g∨g=(w6.alloc o).heap.size)
 (hQb:¬ Q b) (hE:addE m d ⟨nm.data.toList,cs⟩=0) (hSM:SmallD (d++[⟨nm.data.toList,cs⟩])) :
 AddP Q w b m d ⟨nm.data.toList,cs⟩ (.returned (.int .i64 0)) (wi.setCell ⟨b,1,none⟩ (.slice (some ⟨g,0,none⟩) (d.length+1) cap)):=by
 have hgb:sv.ownBlock≠some b:=fun e=>hQb (hq _ e)
 have yi:Blk wi b 266 #[.int .i64 m,sv]:=(hB.alloc o).grown hg (fun e=>hgb e.symm)
 have mi:MT 0 [57] w6 wi:=((MT.refl w6).alloc o).grown hg (hR.alloc o) (by simp) (Nat.zero_le _)
 have ms:MT 0 [266] wi (wi.setCell ⟨b,1,none⟩ (.slice (some ⟨g,0,none⟩) (d.length+1) cap)):=MT.setCell (MT.refl wi) yi (by simp) (Nat.zero_le _) _
 have hnm:(⟨nm.data.toList.toArray⟩:ByteArray)=nm:=by simp
 refine⟨by rw[hE],?_,(((Mod.ofBelow hbw).alloc o).grown hg (fun k hk _=>.inr (hq k hk))).setCell (p:=⟨b,1,none⟩) (fun _=>.inl rfl) _⟩
 rw[addL_more hE]
 refine⟨.slice (some ⟨g,0,none⟩) (d.length+1) cap,by simpa using yi.set_ 1 (.slice (some ⟨g,0,none⟩) (d.length+1) cap),⟨rows++[[.string nm,u6]],?_,?_,?_⟩,hSM⟩
 ·rw[List.flatten_append,List.length_append]
  simpa using ms.ownsRow hown (by decide)
 ·intro k hk
  simp [Value.ownBlock] at hk
  subst hk
  rcases hat with h | h
  ·exact .inl (hq _ h)
  ·right
   rw[h]
   simp
   have:=hbw.size
   omega
 ·refine All2.snoc ⟨u6,by rw[hnm],ms.ownsRow (mi.ownsRow (World.ownsRow.low ho (Nat.zero_le _)) (by decide)) (by decide),fun k hk=>.inr ?_⟩ (hA.mono fun row a h=>((h.mt mi (by decide)).mt ms (by decide)).mono (fun k _ hk=>.inl hk))
  have:=(World.ownsRow.lt ho k hk).1
  omega
set_option maxHeartbeats 16000000 in
set_option maxRecDepth 100000 in
theorem add_any {Q:Nat->Prop} (w:World) (b:Nat) (m:Int) (d:List Rln) (nm:ByteArray) (v:Value) (cs:List Col) (h:SchAt Q w b m d) (hm1:m<=8) (hdm:(d.length:Int)<=m) (hQb:¬ Q b)
 (hcs:ColsAt w v cs) (hl:cs.length<=5864062014634) (hn:nm.size<=140737488355328) (hc:∀ c∈cs,c.x.length<=140737488355328) :
 Calls Tryz.prog 180 #[.pointer (some ⟨b,0,none⟩),.agg #[.string nm,v]] w (AddP Q w b m d ⟨nm.data.toList,cs⟩):=by
 obtain⟨ir,hir,hr0,hr1,hr2⟩:=info_parts Tryz.infoRlA
 obtain⟨W0,hW0⟩:∃ W0,w.alloc (.cells #[.string nm,v] 57)=W0:=⟨_,rfl⟩
 have hb0:Below w.heap.size w W0:=by rw[<-hW0];exact balloc (Below.refl _ _) _
 have hbx:Blk W0 w.heap.size 57 #[.string nm,v]:=by rw[<-hW0];exact Blk.new _ _ _
 have hz0:W0.heap.size=w.heap.size+1:=by rw[<-hW0];simp
 have hs0:=h.keep hb0
 have hbl:=h.lt
 have HCH:=Lib.hid (check_any W0 nm v cs (hcs.keep hb0) hn hc)
 have HS0:=Lib.hid hs0
 have HB0:=Lib.hid hb0
 have HBX:=Lib.hid hbx
 have HCS:=Lib.hid (hcs.keep hb0)
 have HW0:=Lib.hid hW0
 have HZ0:=Lib.hid hz0
 have HQB:=Lib.hid hQb
 have HEK:=Lib.hid (fun (hk:chkC nm.data.toList cs≠0)=>addE_chk (m:=m) (d:=d) (r:=⟨nm.data.toList,cs⟩) hk)
 have HET:=Lib.hid (fun (hk:chkC nm.data.toList cs=0) (h2:nm.data.toList∈d.map (·.name))=>addE_taken (m:=m) (d:=d) (r:=⟨nm.data.toList,cs⟩) hk h2)
 have HEF:=Lib.hid (fun (hk:chkC nm.data.toList cs=0) (h2:nm.data.toList ∉ d.map (·.name)) (h3:m<=d.length)=>addE_full (r:=⟨nm.data.toList,cs⟩) hk h2 h3)
 have HEO:=Lib.hid (fun (hk:chkC nm.data.toList cs=0) (h2:nm.data.toList ∉ d.map (·.name)) (h3:¬ m<=d.length)=>addE_ok (r:=⟨nm.data.toList,cs⟩) hk h2 h3)
 have HSM:=Lib.hid (fun (hk:chkC nm.data.toList cs=0) (h3:¬ m<=d.length) (hs:SmallD d)=>small_add (r:=⟨nm.data.toList,cs⟩) hs hm1 hk h3)
 obtain⟨va,vc,rfl,_,_⟩:=hcs.form
 clear h hs0 hb0 hbx hW0 hz0 hcs hc hQb
 generalize hck:chkC nm.data.toList cs=ck at *
 have HCK:=Lib.hid hck
 clear hck
 have hsame:∀ (w':World) (n:Int),n≠0->addE m d ⟨nm.data.toList,cs⟩=n->Below w.heap.size w w'->SchAt Q w' b m d->AddP Q w b m d ⟨nm.data.toList,cs⟩ (.returned (.int .i64 n)) w':=by
  intro w' n h0 he hb hs
  refine⟨by rw[he],?_,Mod.ofBelow hb⟩
  rw[addL_same (by rw[he];exact h0)]
  exact hs.mono fun k _ hk=>.inl hk
 have HSAME:=Lib.hid hsame
 clear hsame
 by_cases hk0:ck=0
 ·have q0:(ck != 0)=false:=by simp [hk0]
  have HK0:=Lib.hid hk0
  clear hk0
  go_enter Tryz.func180,Tryz.ntmps180
  go_wp2_with fail
  rw[HW0.out]
  refine HCH.out.mono ?_
  rintro e w1 ⟨rfl,hb1⟩
  have hs1:=HS0.out.keep hb1
  have hbx1:=HBX.out.below hb1 HBX.out.lt
  have hcs1:=ColsAt.keep HCS.out hb1
  have x0:=hbx1.cell 0
  have x1:=hbx1.cell 1
  have xl:=hbx1.lt
  simp only[List.getElem?_toArray,List.getElem?_cons_zero,List.getElem?_cons_succ] at x0 x1
  have HF:=Lib.hid (find_any w1 b m d nm hs1)
  have HB1:=Lib.hid (HB0.out.trans (hb1.mono HB0.out.size))
  have HS1:=Lib.hid hs1
  have HX1:=Lib.hid hbx1
  have HCS1:=Lib.hid hcs1
  clear hs1 hbx1 hcs1 hb1 HCH
  go_wp2_with fail
  refine HF.out.mono ?_
  rintro e w2 (⟨hi,rfl,hb2⟩ | ⟨k,r,u,hi,hr,hnm,rfl,hown,hb2⟩)
  ·have hno:=plI_none hi
   have bk2:Below w2.heap.size w2 (w2.alloc (.cells #[.string ⟨#[]⟩,.slice none 0 0] 57)):=balloc (Below.refl _ _) _
   have hb12:Below w1.heap.size w1 (w2.alloc (.cells #[.string ⟨#[]⟩,.slice none 0 0] 57)):=hb2.trans (bk2.mono hb2.size)
   obtain⟨W2,hW2⟩:∃ W2,w2.alloc (.cells #[.string ⟨#[]⟩,.slice none 0 0] 57)=W2:=⟨_,rfl⟩
   rw[hW2] at hb12
   obtain⟨sv,hsb,hso,hsm⟩:=HS1.out.keep hb12
   have hsat:=hsm.at hso
   obtain⟨sa,sc,rfl,hsn,hscm⟩:=hsat.form
   unfold maxLen at hscm
   have hbx2:=HX1.out.below hb12 HX1.out.lt
   have y0:=hsb.cell 0
   have y1:=hsb.cell 1
   have yl:=hsb.lt
   have x0:=hbx2.cell 0
   have x1:=hbx2.cell 1
   have xl:=hbx2.lt
   simp only[List.getElem?_toArray,List.getElem?_cons_zero,List.getElem?_cons_succ] at y0 y1 x0 x1
   have HB2:=Lib.hid (HB1.out.trans (hb12.mono HB1.out.size))
   have HNO:=Lib.hid hno
   have HSB:=Lib.hid hsb
   have HSO:=Lib.hid hso
   have HSS:=Lib.hid hsm
   have HX2:=Lib.hid hbx2
   have hcs2:=ColsAt.keep HCS1.out hb12
   have HCS2:=Lib.hid hcs2
   have HW2:=Lib.hid hW2
   have hd8:=hsm.1
   clear hi hno bk2 hb2 hb12 hW2 hsb hso hsm hsat hbx2 hcs2 HF
   generalize hdn:d.length=dn at *
   have HDN:=Lib.hid hdn
   clear hdn
   by_cases hfull:(dn:Int)=m
   ·have q1:((dn:Int) == m)=true:=by simpa using hfull
    have he:=HEF.out HK0.out HNO.out (by omega)
    have HE:=Lib.hid he
    have hs2:SchAt Q W2 b m d:=⟨_,HSB.out,HSO.out,HSS.out⟩
    have HS2:=Lib.hid hs2
    clear he hs2 hfull
    go_wp2_with fail
    rw[HW2.out]
    go_quiet (fail)
    go_wp2_with fail
    go_ret
    exact HSAME.out _ 84 (by decide) HE.out (bdrewN HB2.out _) (HS2.out.keep (bdrewN (Below.refl _ _) _))
   ·have q1:((dn:Int) == m)=false:=by simpa using hfull
    have he:=HEO.out HK0.out HNO.out (by omega)
    have hsm2:=HSM.out HK0.out (by omega) HSS.out
    have HE:=Lib.hid he
    have HSM2:=Lib.hid hsm2
    have HCLN:=Lib.hid (fun W (hW:Below W2.heap.size W2 W)=>sclone_any W nm (.slice va cs.length vc) cs (ColsAt.keep HCS2.out hW) hl)
    clear he hsm2 hfull
    go_wp2_with fail
    rw[HW2.out]
    obtain⟨rows,hrw,hqv,hall⟩:=HSO.out
    rw[HDN.out] at hrw
    have HRW:=Lib.hid hrw
    have HQV:=Lib.hid hqv
    have HAL:=Lib.hid hall
    have f1:=HSB.out.frozen 1
    clear hrw hqv hall
    go_quiet (fail)
    go_wp2_with fail
    go_region_law (first
     | (go_simp;go_at_call 184;refine (HCLN.out _ (bdrewN (Below.refl _ W2) _)).mono ?_;rintro e w6 ⟨u6,rfl,hown6,hb6⟩;obtain⟨va6,vc6,rfl⟩:=own_sl hown6;have m6:Below W2.heap.size W2 w6:=bt2 (bdrewN (Below.refl _ W2) _) hb6;have sb6:=HSB.out.below m6 HSB.out.lt;have y16:=sb6.cell 1;have yl6:=sb6.lt;have f16:=sb6.frozen 1;simp only[List.getElem?_toArray,List.getElem?_cons_zero,List.getElem?_cons_succ] at y16;have HB6:=Lib.hid sb6;have HJ6:=Lib.hid ((MT.ofBelow (Ts:=[]) (B:=0) m6).ownsRow HRW.out (by simp));have HM6:=Lib.hid m6;have HO6:=Lib.hid hown6;clear m6 sb6 hown6 hb6)
     | (refine step_append_lies _ rfl (.tmp 35) (.tmp 38) 22 rfl 0 57 ir (.agg #[.string ⟨#[]⟩,.slice none 0 0]) 2 40 Tryz.underlying22 hir hr0 hr1 hr2 rfl (by decide) (.slice sa dn sc) dn _ rfl (HJ6.out.alloc _) ⟨_,0,none⟩ 1 1 [.string nm,.slice va6 cs.length vc6] rfl rfl (World.news_of_block (Blk.new _ _ _)) (by simp [Value.oneCell']) (by decide) (by unfold maxLen;omega) (by omega) (Nat.zero_le _) _ rfl ?_;intro g3 cap3 wi hown3 hgrow3 hat3 hlt3;have yi:=(HB6.out.alloc (.cells #[.string nm,.slice va6 cs.length vc6] 57)).grown hgrow3 (fun e=>HQB.out (HQV.out _ e.symm));have z2:=yi.cell 1;have zf:=yi.frozen 1;have zl:=yi.lt;simp only[List.getElem?_toArray,List.getElem?_cons_zero,List.getElem?_cons_succ] at z2;clear yi))
    all_goals
     have hend:=add_end (w:=w) HB6.out (by rw[HDN.out];exact HJ6.out) HQV.out (HAL.out.mono fun row a h=>h.mt (MT.ofBelow (Ts:=[]) (B:=0) HM6.out) (by simp)) HO6.out (HB2.out.trans (HM6.out.mono HB2.out.size)) (by simp;have:=HB2.out.size;omega) (by rw[HDN.out];exact hown3) hgrow3 hat3 HQB.out HE.out HSM2.out
     rw[HDN.out] at hend
     have HEND:=Lib.hid hend
     clear hend hown3 hgrow3 hat3
     go_wp2_with fail
     go_ret
     exact HEND.out
  ·have hm':nm.data.toList∈d.map (·.name):=List.mem_map.2 ⟨r,List.mem_of_getElem? hr,hnm⟩
   have he:=HET.out HK0.out hm'
   obtain⟨ua,uc,rfl⟩:=own_sl hown
   have hcn:r.name=nm.data.toList:=hnm
   have bk2:Below w1.heap.size w1 (w2.alloc (.cells #[.string ⟨r.name.toArray⟩,.slice ua r.cols.length uc] 57)):=balloc hb2 _
   have HE:=Lib.hid he
   have HB2:=Lib.hid (HB1.out.trans (bk2.mono HB1.out.size))
   have HS2:=Lib.hid (HS1.out.keep bk2)
   clear hi hr hnm hm' he hown bk2 hb2 hcn HF
   generalize r.cols.length=rn at *
   go_wp2_with fail
   go_ret
   exact HSAME.out _ 85 (by decide) HE.out HB2.out HS2.out
 ·have q0:(ck != 0)=true:=by simpa using hk0
  have he:=HEK.out hk0
  have HE:=Lib.hid he
  have HK0:=Lib.hid hk0
  clear hk0 he
  go_enter Tryz.func180,Tryz.ntmps180
  go_wp2_with fail
  rw[HW0.out]
  refine HCH.out.mono ?_
  rintro e w1 ⟨rfl,hb1⟩
  have HB1:=Lib.hid (HB0.out.trans (hb1.mono HB0.out.size))
  have HS1:=Lib.hid (HS0.out.keep hb1)
  clear hb1 HCH
  go_wp2_with fail
  go_ret
  exact HSAME.out _ ck HK0.out (by rw[HE.out]) HB1.out HS1.out
end Go.Proofs.YtgopfpjinohncaaGreatDoor
