/- query.Parse's atoms, read: the closure, the list. query.Parse's deferred closure, walked; the state of Parse's named results. query.Parse's door, and a line that Open refuses. The read lists of query.Parse: atoms; what lies where. query.Parse's end: small facts, the door of a frame that returns. -/
import Derived.Test.YtamjadghncnbcaaGreatDoorGnW
import Derived.Test.YtamjadghncnbcaaGreatDoorSmW
import Derived.Test.YtamjadghncnbcaaGreatDoorGaW
import Derived.Test.YtamjadghncnbcaaGreatDoorGbW
import Derived.Deep.RegionHeld3
import Derived.Recover
import Derived.Defers
namespace Go.Proofs.YtamjadghncnbcaaGreatDoor
open Go.RowKit
set_option linter.unusedVariables false
def AtR (w:World) (cs:List Value) (x:(List UInt8 × Int) × List (Trm × Int)):Prop :=
 ∃ tv,cs=[.string ⟨x.1.1.toArray⟩,.int .i64 x.1.2,tv]/\w.ownsRow 0 148 5 tv x.2.length (x.2.flatMap termV)
theorem atom_bad1 {c:List Tok} {a e:Int} (h:nameP c=.bad a e):atomP c=.bad a e:=by
 unfold atomP
 rw[h]
theorem atom_bad2 {c c1:List Tok} {x:List UInt8 × Int} {a e:Int} (h:nameP c=.ok x c1) (h2:listP termP c1=.bad a e):atomP c=.bad a e:=by
 unfold atomP
 rw[h]
 simp only[h2]
theorem atom_ok {c c1 c2:List Tok} {x:List UInt8 × Int} {l:List (Trm × Int)} (h:nameP c=.ok x c1) (h2:listP termP c1=.ok l c2):atomP c=.ok (x,l) c2:=by
 unfold atomP
 rw[h]
 simp only[h2]
theorem own_one {w:World} {base:Nat} {e:TypeId} {size n:Nat} {v:Value} {xs:List Value} (h:w.ownsRow base e size v n xs):v.oneCell'=true:=by
 rcases h.2 with ⟨rfl,_⟩ | ⟨g,cap,cur,rfl,_⟩<;>rfl
set_option maxHeartbeats 8000000 in
set_option maxRecDepth 100000 in
theorem atomClo_bad1 {w:World} {b r:Nat} {c:List Tok} {vt:Value} {B:Nat} (hi:InB w b r) (h:Rs w r c vt) (hB:B<=r) (hw:B<=w.heap.size) {a e:Int} (h0:nameP c=.bad a e) :
 Calls Tryz.prog 86 #[.pointer (some ⟨b,0,none⟩)] w (PPost (fun x c' v w'=>∃ cs,v=.agg cs.toArray/\AtR w' cs x/\InB w' b r/\Rs w' r c' vt) B [177] w (atomP c)):=by
 have hmf:∀ (fn:Fn) (first cap:Array Value) (w:World),(Instr.makeFunc fn first cap).run Tryz.prog w=.ok (.func fn first cap) w:=fun _ _ _ _=>rfl
 have hb0:Below w.heap.size w (w.alloc (.cells #[.string ⟨#[]⟩,.int .i64 0,.slice none 0 0] 145)).drew:=bdrew (balloc (Below.refl _ _) _)
 have zb:Blk (w.alloc (.cells #[.string ⟨#[]⟩,.int .i64 0,.slice none 0 0] 145)).drew w.heap.size 145 #[.string ⟨#[]⟩,.int .i64 0,.slice none 0 0]:=Blk.drew (Blk.new w _ _)
 have hi1:InB (w.alloc (.cells #[.string ⟨#[]⟩,.int .i64 0,.slice none 0 0] 145)).drew b r:=Blk.drew (Blk.alloc hi _)
 have hnm:=name_any (B:=B) (h.keep hb0) hB
 have hbl:=Blk.lt hi
 have HI1:=Lib.hid hi1
 have HB0:=Lib.hid hb0
 have ZB:=Lib.hid zb
 clear h hb0 zb hi hi1
 rw[h0] at hnm
 rw[atom_bad1 h0]
 have HNM:=Lib.hid hnm
 clear h0 hnm
 go_enter Tryz.func86,Tryz.ntmps86
 go_wp2_with fail
 refine wp_region_any (by kernel_rfl) ?_
 try (change wpAny _ _ _ _ _ _ _ (World.drew _))
 have x0:=Blk.cell HI1.out 0
 simp at x0
 refine wpAny_take (i:=3) (v:=?_) rfl (by kernel_rfl) (by kernel_rfl) (by kernel_rfl) (fun _ _ _ h=>h) (Or.inl ⟨by rfl,?_⟩) ?_
 rotate_left
 ·intro w
  go_simp
  with_reducible rfl
 refine wpAny_ready (rs:=[0,2]) (by kernel_rfl) (by simp) ?_
 refine AllReady.cons rfl (fun K hK=>?_) (AllReady.cons rfl (fun K hK=>?_) AllReady.nil)
 ·go_simp
  refine hK _ _ ?_
  clear hK K
  refine wpAny_ready (rs:=[1,2]) (by kernel_rfl) (by simp) ?_
  refine AllReady.cons rfl (fun K hK=>?_) (AllReady.cons rfl (fun K hK=>?_) AllReady.nil)
  ·go_simp
   refine HNM.out.mono ?_
   rintro e' w1 ⟨rfl,hm⟩
   exact⟨rfl,ppost_bad ((MT.ofBelow HB0.out).trans hm)⟩
  ·go_simp
   refine hK _ _ ?_
   clear hK K
   refine wpAny_ready (rs:=[1]) (by kernel_rfl) (by simp) ?_
   refine AllReady.cons rfl (fun K hK=>?_) AllReady.nil
   go_simp
   refine HNM.out.mono ?_
   rintro e' w1 ⟨rfl,hm⟩
   exact⟨rfl,ppost_bad ((MT.ofBelow HB0.out).trans hm)⟩
 ·go_simp
  refine hK _ _ ?_
  clear hK K
  refine wpAny_ready (rs:=[0]) (by kernel_rfl) (by simp) ?_
  refine AllReady.cons rfl (fun K hK=>?_) AllReady.nil
  go_simp
  refine hK _ _ ?_
  clear hK K
  refine wpAny_ready (rs:=[1]) (by kernel_rfl) (by simp) ?_
  refine AllReady.cons rfl (fun K hK=>?_) AllReady.nil
  go_simp
  refine HNM.out.mono ?_
  rintro e' w1 ⟨rfl,hm⟩
  exact⟨rfl,ppost_bad ((MT.ofBelow HB0.out).trans hm)⟩
set_option maxHeartbeats 8000000 in
set_option maxRecDepth 100000 in
theorem atomClo_bad2 {w:World} {b r:Nat} {c:List Tok} {vt:Value} {B:Nat} (hi:InB w b r) (h:Rs w r c vt) (hB:B<=r) (hw:B<=w.heap.size) {x:List UInt8 × Int} {c1:List Tok} {a e:Int} (h0:nameP c=.ok x c1) (hlt:listP termP c1=.bad a e) :
 Calls Tryz.prog 86 #[.pointer (some ⟨b,0,none⟩)] w (PPost (fun x c' v w'=>∃ cs,v=.agg cs.toArray/\AtR w' cs x/\InB w' b r/\Rs w' r c' vt) B [177] w (atomP c)):=by
 have hmf:∀ (fn:Fn) (first cap:Array Value) (w:World),(Instr.makeFunc fn first cap).run Tryz.prog w=.ok (.func fn first cap) w:=fun _ _ _ _=>rfl
 have hb0:Below w.heap.size w (w.alloc (.cells #[.string ⟨#[]⟩,.int .i64 0,.slice none 0 0] 145)).drew:=bdrew (balloc (Below.refl _ _) _)
 have zb:Blk (w.alloc (.cells #[.string ⟨#[]⟩,.int .i64 0,.slice none 0 0] 145)).drew w.heap.size 145 #[.string ⟨#[]⟩,.int .i64 0,.slice none 0 0]:=Blk.drew (Blk.new w _ _)
 have hi1:InB (w.alloc (.cells #[.string ⟨#[]⟩,.int .i64 0,.slice none 0 0] 145)).drew b r:=Blk.drew (Blk.alloc hi _)
 have hnm:=name_any (B:=B) (h.keep hb0) hB
 have hbl:=Blk.lt hi
 have HI1:=Lib.hid hi1
 have HB0:=Lib.hid hb0
 have ZB:=Lib.hid zb
 clear h hb0 zb hi hi1
 rw[h0] at hnm
 have HNM:=Lib.hid hnm
 have H0:=Lib.hid h0
 clear h0 hnm
 rw[atom_bad2 H0.out hlt]
 have HLT:=Lib.hid hlt
 clear hlt
 go_enter Tryz.func86,Tryz.ntmps86
 go_wp2_with fail
 refine wp_region_any (by kernel_rfl) ?_
 try (change wpAny _ _ _ _ _ _ _ (World.drew _))
 have x0:=Blk.cell HI1.out 0
 simp at x0
 refine wpAny_take (i:=3) (v:=?_) rfl (by kernel_rfl) (by kernel_rfl) (by kernel_rfl) (fun _ _ _ h=>h) (Or.inl ⟨by rfl,?_⟩) ?_
 rotate_left
 ·intro w
  go_simp
  with_reducible rfl
 refine wpAny_ready (rs:=[0,2]) (by kernel_rfl) (by simp) ?_
 refine AllReady.cons rfl (fun K hK=>?_) (AllReady.cons rfl (fun K hK=>?_) AllReady.nil)
 ·go_simp
  refine hK _ _ ?_
  clear hK K
  refine wpAny_ready (rs:=[1,2]) (by kernel_rfl) (by simp) ?_
  refine AllReady.cons rfl (fun K hK=>?_) (AllReady.cons rfl (fun K hK=>?_) AllReady.nil)
  ·go_simp
   refine HNM.out.mono ?_
   rintro e' w1 ⟨v1,rfl,⟨rfl,hr1⟩,hm⟩
   have hi2:=HI1.out.mt hm (by decide)
   have zb2:=ZB.out.mt hm (by decide)
   have hsz1:=hm.size
   have x1:=Blk.cell hi2 0
   simp at x1
   have hlt:=terms_any (B:=B) hi2 hr1 hB (by have:=HB0.out.size;omega)
   rw[HLT.out] at hlt
   have HL:=Lib.hid hlt
   have ZB2:=Lib.hid zb2
   have HM:=Lib.hid ((MT.ofBelow HB0.out).trans hm)
   clear hlt zb2 hi2 hr1 hm
   unfold nameV
   go_simp
   refine hK _ _ ?_
   clear hK K
   refine wpAny_ready (rs:=[2]) (by kernel_rfl) (by simp) ?_
   refine AllReady.cons rfl (fun K hK=>?_) AllReady.nil
   go_simp
   refine hK _ _ ?_
   clear hK K
   refine wpAny_ready (rs:=[4]) (by kernel_rfl) (by simp) ?_
   refine AllReady.cons rfl (fun K hK=>?_) AllReady.nil
   go_simp
   refine HL.out.mono ?_
   rintro e' w2 ⟨rfl,hm2⟩
   exact⟨rfl,ppost_bad (HM.out.trans hm2)⟩
  ·go_simp
   refine hK _ _ ?_
   clear hK K
   refine wpAny_ready (rs:=[1]) (by kernel_rfl) (by simp) ?_
   refine AllReady.cons rfl (fun K hK=>?_) AllReady.nil
   go_simp
   refine HNM.out.mono ?_
   rintro e' w1 ⟨v1,rfl,⟨rfl,hr1⟩,hm⟩
   have hi2:=HI1.out.mt hm (by decide)
   have zb2:=ZB.out.mt hm (by decide)
   have hsz1:=hm.size
   have x1:=Blk.cell hi2 0
   simp at x1
   have hlt:=terms_any (B:=B) hi2 hr1 hB (by have:=HB0.out.size;omega)
   rw[HLT.out] at hlt
   have HL:=Lib.hid hlt
   have ZB2:=Lib.hid zb2
   have HM:=Lib.hid ((MT.ofBelow HB0.out).trans hm)
   clear hlt zb2 hi2 hr1 hm
   unfold nameV
   go_simp
   refine hK _ _ ?_
   clear hK K
   refine wpAny_ready (rs:=[4]) (by kernel_rfl) (by simp) ?_
   refine AllReady.cons rfl (fun K hK=>?_) AllReady.nil
   go_simp
   refine HL.out.mono ?_
   rintro e' w2 ⟨rfl,hm2⟩
   exact⟨rfl,ppost_bad (HM.out.trans hm2)⟩
 ·go_simp
  refine hK _ _ ?_
  clear hK K
  refine wpAny_ready (rs:=[0]) (by kernel_rfl) (by simp) ?_
  refine AllReady.cons rfl (fun K hK=>?_) AllReady.nil
  go_simp
  refine hK _ _ ?_
  clear hK K
  refine wpAny_ready (rs:=[1]) (by kernel_rfl) (by simp) ?_
  refine AllReady.cons rfl (fun K hK=>?_) AllReady.nil
  go_simp
  refine HNM.out.mono ?_
  rintro e' w1 ⟨v1,rfl,⟨rfl,hr1⟩,hm⟩
  have hi2:=HI1.out.mt hm (by decide)
  have zb2:=ZB.out.mt hm (by decide)
  have hsz1:=hm.size
  have x1:=Blk.cell hi2 0
  simp at x1
  have hlt:=terms_any (B:=B) hi2 hr1 hB (by have:=HB0.out.size;omega)
  rw[HLT.out] at hlt
  have HL:=Lib.hid hlt
  have ZB2:=Lib.hid zb2
  have HM:=Lib.hid ((MT.ofBelow HB0.out).trans hm)
  clear hlt zb2 hi2 hr1 hm
  unfold nameV
  go_simp
  refine hK _ _ ?_
  clear hK K
  refine wpAny_ready (rs:=[4]) (by kernel_rfl) (by simp) ?_
  refine AllReady.cons rfl (fun K hK=>?_) AllReady.nil
  go_simp
  refine HL.out.mono ?_
  rintro e' w2 ⟨rfl,hm2⟩
  exact⟨rfl,ppost_bad (HM.out.trans hm2)⟩
set_option maxHeartbeats 8000000 in
set_option maxRecDepth 100000 in
theorem atomClo_ok {w:World} {b r:Nat} {c:List Tok} {vt:Value} {B:Nat} (hi:InB w b r) (h:Rs w r c vt) (hB:B<=r) (hw:B<=w.heap.size) {x:List UInt8 × Int} {c1 c2:List Tok} {l:List (Trm × Int)} (h0:nameP c=.ok x c1) (hlt:listP termP c1=.ok l c2) :
 Calls Tryz.prog 86 #[.pointer (some ⟨b,0,none⟩)] w (PPost (fun x c' v w'=>∃ cs,v=.agg cs.toArray/\AtR w' cs x/\InB w' b r/\Rs w' r c' vt) B [177] w (atomP c)):=by
 have hmf:∀ (fn:Fn) (first cap:Array Value) (w:World),(Instr.makeFunc fn first cap).run Tryz.prog w=.ok (.func fn first cap) w:=fun _ _ _ _=>rfl
 have hb0:Below w.heap.size w (w.alloc (.cells #[.string ⟨#[]⟩,.int .i64 0,.slice none 0 0] 145)).drew:=bdrew (balloc (Below.refl _ _) _)
 have zb:Blk (w.alloc (.cells #[.string ⟨#[]⟩,.int .i64 0,.slice none 0 0] 145)).drew w.heap.size 145 #[.string ⟨#[]⟩,.int .i64 0,.slice none 0 0]:=Blk.drew (Blk.new w _ _)
 have hi1:InB (w.alloc (.cells #[.string ⟨#[]⟩,.int .i64 0,.slice none 0 0] 145)).drew b r:=Blk.drew (Blk.alloc hi _)
 have hnm:=name_any (B:=B) (h.keep hb0) hB
 have hbl:=Blk.lt hi
 have HI1:=Lib.hid hi1
 have HB0:=Lib.hid hb0
 have ZB:=Lib.hid zb
 clear h hb0 zb hi hi1
 rw[h0] at hnm
 have HNM:=Lib.hid hnm
 have H0:=Lib.hid h0
 clear h0 hnm
 rw[atom_ok H0.out hlt]
 have HLT:=Lib.hid hlt
 clear hlt
 go_enter Tryz.func86,Tryz.ntmps86
 go_wp2_with fail
 refine wp_region_any (by kernel_rfl) ?_
 try (change wpAny _ _ _ _ _ _ _ (World.drew _))
 have x0:=Blk.cell HI1.out 0
 simp at x0
 refine wpAny_take (i:=3) (v:=?_) rfl (by kernel_rfl) (by kernel_rfl) (by kernel_rfl) (fun _ _ _ h=>h) (Or.inl ⟨by rfl,?_⟩) ?_
 rotate_left
 ·intro w
  go_simp
  with_reducible rfl
 refine wpAny_ready (rs:=[0,2]) (by kernel_rfl) (by simp) ?_
 refine AllReady.cons rfl (fun K hK=>?_) (AllReady.cons rfl (fun K hK=>?_) AllReady.nil)
 ·go_simp
  refine hK _ _ ?_
  clear hK K
  refine wpAny_ready (rs:=[1,2]) (by kernel_rfl) (by simp) ?_
  refine AllReady.cons rfl (fun K hK=>?_) (AllReady.cons rfl (fun K hK=>?_) AllReady.nil)
  ·go_simp
   refine HNM.out.mono ?_
   rintro e' w1 ⟨v1,rfl,⟨rfl,hr1⟩,hm⟩
   have hi2:=HI1.out.mt hm (by decide)
   have zb2:=ZB.out.mt hm (by decide)
   have hsz1:=hm.size
   have x1:=Blk.cell hi2 0
   simp at x1
   have hlt:=terms_any (B:=B) hi2 hr1 hB (by have:=HB0.out.size;omega)
   rw[HLT.out] at hlt
   have HL:=Lib.hid hlt
   have ZB2:=Lib.hid zb2
   have HM:=Lib.hid ((MT.ofBelow HB0.out).trans hm)
   clear hlt zb2 hi2 hr1 hm
   unfold nameV
   go_simp
   refine hK _ _ ?_
   clear hK K
   refine wpAny_ready (rs:=[2]) (by kernel_rfl) (by simp) ?_
   refine AllReady.cons rfl (fun K hK=>?_) AllReady.nil
   go_simp
   refine hK _ _ ?_
   clear hK K
   refine wpAny_ready (rs:=[4]) (by kernel_rfl) (by simp) ?_
   refine AllReady.cons rfl (fun K hK=>?_) AllReady.nil
   go_simp
   refine HL.out.mono ?_
   rintro e' w2 ⟨tv,rfl,⟨hown,hi3,hr3⟩,hm2⟩
   obtain⟨ta,tc,rfl⟩:=own_sl hown
   have zb3:=ZB2.out.mt hm2 (by decide)
   have ZB3:=Lib.hid zb3
   have HOWN:=Lib.hid (World.ownsRow.low hown (Nat.zero_le _))
   have HI3:=Lib.hid hi3
   have HR3:=Lib.hid hr3
   have HM2:=Lib.hid (HM.out.trans hm2)
   clear zb3 hown hi3 hr3 hm2
   go_simp
   refine hK _ _ ?_
   clear hK K
   refine wpAny_ready (rs:=[5]) (by kernel_rfl) (by simp) ?_
   refine AllReady.cons rfl (fun K hK=>?_) AllReady.nil
   go_simp
   refine hK _ _ ?_
   clear hK K
   refine wpAny_ready (rs:=[6]) (by kernel_rfl) (by simp) ?_
   refine AllReady.cons rfl (fun K hK=>?_) AllReady.nil
   refine step_store_blk rfl 145 _ _ rfl w.heap.size 145 _ _ rfl rfl ZB3.out (by kernel_rfl) rfl ?_ ?_
   ·simp [Value.oneCell']
   intro w3 hb3 hm3 hz3
   have r0:=hb3.cell 0
   have r1:=hb3.cell 1
   have r2:=hb3.cell 2
   simp only[List.getElem?_toArray,List.getElem?_cons_zero,List.getElem?_cons_succ] at r0 r1 r2
   have mt3:MT 0 [145] w2 w3:=MT.ofMod hm3 ZB3.out (by simp) (Nat.zero_le _)
   have HM3:=Lib.hid (HM2.out.own hm3 (Nat.le_refl _))
   have HR4:=Lib.hid (HR3.out.mt mt3 (by decide) (by decide))
   have HI4:=Lib.hid (HI3.out.mt mt3 (by decide))
   have HO4:=Lib.hid (mt3.ownsRow HOWN.out (by decide))
   clear hb3 hm3 hz3 mt3
   go_simp
   refine hK _ _ ?_
   clear hK K
   refine wpAny_done (by kernel_rfl) ?_ _
   go_wp2_with fail
   exact bodyPost_ret (v:=.agg #[.string ⟨x.1.toArray⟩,.int .i64 x.2,.slice ta l.length tc]) (by simp [results,Tryz.results86,go_sem, *]) rfl ⟨_,rfl,⟨_,rfl,⟨_,rfl,HO4.out⟩,HI4.out,HR4.out⟩,HM3.out⟩
  ·go_simp
   refine hK _ _ ?_
   clear hK K
   refine wpAny_ready (rs:=[1]) (by kernel_rfl) (by simp) ?_
   refine AllReady.cons rfl (fun K hK=>?_) AllReady.nil
   go_simp
   refine HNM.out.mono ?_
   rintro e' w1 ⟨v1,rfl,⟨rfl,hr1⟩,hm⟩
   have hi2:=HI1.out.mt hm (by decide)
   have zb2:=ZB.out.mt hm (by decide)
   have hsz1:=hm.size
   have x1:=Blk.cell hi2 0
   simp at x1
   have hlt:=terms_any (B:=B) hi2 hr1 hB (by have:=HB0.out.size;omega)
   rw[HLT.out] at hlt
   have HL:=Lib.hid hlt
   have ZB2:=Lib.hid zb2
   have HM:=Lib.hid ((MT.ofBelow HB0.out).trans hm)
   clear hlt zb2 hi2 hr1 hm
   unfold nameV
   go_simp
   refine hK _ _ ?_
   clear hK K
   refine wpAny_ready (rs:=[4]) (by kernel_rfl) (by simp) ?_
   refine AllReady.cons rfl (fun K hK=>?_) AllReady.nil
   go_simp
   refine HL.out.mono ?_
   rintro e' w2 ⟨tv,rfl,⟨hown,hi3,hr3⟩,hm2⟩
   obtain⟨ta,tc,rfl⟩:=own_sl hown
   have zb3:=ZB2.out.mt hm2 (by decide)
   have ZB3:=Lib.hid zb3
   have HOWN:=Lib.hid (World.ownsRow.low hown (Nat.zero_le _))
   have HI3:=Lib.hid hi3
   have HR3:=Lib.hid hr3
   have HM2:=Lib.hid (HM.out.trans hm2)
   clear zb3 hown hi3 hr3 hm2
   go_simp
   refine hK _ _ ?_
   clear hK K
   refine wpAny_ready (rs:=[5]) (by kernel_rfl) (by simp) ?_
   refine AllReady.cons rfl (fun K hK=>?_) AllReady.nil
   go_simp
   refine hK _ _ ?_
   clear hK K
   refine wpAny_ready (rs:=[6]) (by kernel_rfl) (by simp) ?_
   refine AllReady.cons rfl (fun K hK=>?_) AllReady.nil
   refine step_store_blk rfl 145 _ _ rfl w.heap.size 145 _ _ rfl rfl ZB3.out (by kernel_rfl) rfl ?_ ?_
   ·simp [Value.oneCell']
   intro w3 hb3 hm3 hz3
   have r0:=hb3.cell 0
   have r1:=hb3.cell 1
   have r2:=hb3.cell 2
   simp only[List.getElem?_toArray,List.getElem?_cons_zero,List.getElem?_cons_succ] at r0 r1 r2
   have mt3:MT 0 [145] w2 w3:=MT.ofMod hm3 ZB3.out (by simp) (Nat.zero_le _)
   have HM3:=Lib.hid (HM2.out.own hm3 (Nat.le_refl _))
   have HR4:=Lib.hid (HR3.out.mt mt3 (by decide) (by decide))
   have HI4:=Lib.hid (HI3.out.mt mt3 (by decide))
   have HO4:=Lib.hid (mt3.ownsRow HOWN.out (by decide))
   clear hb3 hm3 hz3 mt3
   go_simp
   refine hK _ _ ?_
   clear hK K
   refine wpAny_done (by kernel_rfl) ?_ _
   go_wp2_with fail
   exact bodyPost_ret (v:=.agg #[.string ⟨x.1.toArray⟩,.int .i64 x.2,.slice ta l.length tc]) (by simp [results,Tryz.results86,go_sem, *]) rfl ⟨_,rfl,⟨_,rfl,⟨_,rfl,HO4.out⟩,HI4.out,HR4.out⟩,HM3.out⟩
 ·go_simp
  refine hK _ _ ?_
  clear hK K
  refine wpAny_ready (rs:=[0]) (by kernel_rfl) (by simp) ?_
  refine AllReady.cons rfl (fun K hK=>?_) AllReady.nil
  go_simp
  refine hK _ _ ?_
  clear hK K
  refine wpAny_ready (rs:=[1]) (by kernel_rfl) (by simp) ?_
  refine AllReady.cons rfl (fun K hK=>?_) AllReady.nil
  go_simp
  refine HNM.out.mono ?_
  rintro e' w1 ⟨v1,rfl,⟨rfl,hr1⟩,hm⟩
  have hi2:=HI1.out.mt hm (by decide)
  have zb2:=ZB.out.mt hm (by decide)
  have hsz1:=hm.size
  have x1:=Blk.cell hi2 0
  simp at x1
  have hlt:=terms_any (B:=B) hi2 hr1 hB (by have:=HB0.out.size;omega)
  rw[HLT.out] at hlt
  have HL:=Lib.hid hlt
  have ZB2:=Lib.hid zb2
  have HM:=Lib.hid ((MT.ofBelow HB0.out).trans hm)
  clear hlt zb2 hi2 hr1 hm
  unfold nameV
  go_simp
  refine hK _ _ ?_
  clear hK K
  refine wpAny_ready (rs:=[4]) (by kernel_rfl) (by simp) ?_
  refine AllReady.cons rfl (fun K hK=>?_) AllReady.nil
  go_simp
  refine HL.out.mono ?_
  rintro e' w2 ⟨tv,rfl,⟨hown,hi3,hr3⟩,hm2⟩
  obtain⟨ta,tc,rfl⟩:=own_sl hown
  have zb3:=ZB2.out.mt hm2 (by decide)
  have ZB3:=Lib.hid zb3
  have HOWN:=Lib.hid (World.ownsRow.low hown (Nat.zero_le _))
  have HI3:=Lib.hid hi3
  have HR3:=Lib.hid hr3
  have HM2:=Lib.hid (HM.out.trans hm2)
  clear zb3 hown hi3 hr3 hm2
  go_simp
  refine hK _ _ ?_
  clear hK K
  refine wpAny_ready (rs:=[5]) (by kernel_rfl) (by simp) ?_
  refine AllReady.cons rfl (fun K hK=>?_) AllReady.nil
  go_simp
  refine hK _ _ ?_
  clear hK K
  refine wpAny_ready (rs:=[6]) (by kernel_rfl) (by simp) ?_
  refine AllReady.cons rfl (fun K hK=>?_) AllReady.nil
  refine step_store_blk rfl 145 _ _ rfl w.heap.size 145 _ _ rfl rfl ZB3.out (by kernel_rfl) rfl ?_ ?_
  ·simp [Value.oneCell']
  intro w3 hb3 hm3 hz3
  have r0:=hb3.cell 0
  have r1:=hb3.cell 1
  have r2:=hb3.cell 2
  simp only[List.getElem?_toArray,List.getElem?_cons_zero,List.getElem?_cons_succ] at r0 r1 r2
  have mt3:MT 0 [145] w2 w3:=MT.ofMod hm3 ZB3.out (by simp) (Nat.zero_le _)
  have HM3:=Lib.hid (HM2.out.own hm3 (Nat.le_refl _))
  have HR4:=Lib.hid (HR3.out.mt mt3 (by decide) (by decide))
  have HI4:=Lib.hid (HI3.out.mt mt3 (by decide))
  have HO4:=Lib.hid (mt3.ownsRow HOWN.out (by decide))
  clear hb3 hm3 hz3 mt3
  go_simp
  refine hK _ _ ?_
  clear hK K
  refine wpAny_done (by kernel_rfl) ?_ _
  go_wp2_with fail
  exact bodyPost_ret (v:=.agg #[.string ⟨x.1.toArray⟩,.int .i64 x.2,.slice ta l.length tc]) (by simp [results,Tryz.results86,go_sem, *]) rfl ⟨_,rfl,⟨_,rfl,⟨_,rfl,HO4.out⟩,HI4.out,HR4.out⟩,HM3.out⟩
theorem atomClo_any {w:World} {b r:Nat} {c:List Tok} {vt:Value} {B:Nat} (hi:InB w b r) (h:Rs w r c vt) (hB:B<=r) (hw:B<=w.heap.size) :
 Calls Tryz.prog 86 #[.pointer (some ⟨b,0,none⟩)] w (PPost (fun x c' v w'=>∃ cs,v=.agg cs.toArray/\AtR w' cs x/\InB w' b r/\Rs w' r c' vt) B [177] w (atomP c)):=by
 cases h0:nameP c with
 | bad a e =>
   have:=atomClo_bad1 hi h hB hw h0
   exact this
 | ok x c1 =>
   cases hlt:listP termP c1 with
   | bad a e=>exact atomClo_bad2 hi h hB hw h0 hlt
   | ok l c2=>exact atomClo_ok hi h hB hw h0 hlt
set_option maxHeartbeats 2000000 in
set_option maxRecDepth 100000 in
theorem query_idle (p q r:Addr) (w:World) :
 CallsD Tryz.prog 80 #[.pointer (some p),.pointer (some q),.pointer (some r)] .returning w fun e u' w'=>e=.returned (.tuple #[])/\u'=.returning/\w'=w:=by
 have hc:=caught_nil p q w
 refine callsD_of_wpS Tryz.func80 rfl fun c₀ cs hu=>?_
 apply wpS_seq
 apply wpS_region
 simp [wpOpsS,go_sem,recoverD,hu,Tryz.ntmps80,Exit.thenS]
 refine hc.mono ?_
 rintro e w1 ⟨rfl,rfl⟩
 refine wpS_cond (t:=false) (by simp [Act.eval,Array.replicate]) ?_
 simp only[Bool.false_eq_true,if_false]
 refine wpS_of_wp (wp_skip ?_)
 cases c₀
 simp_all [bodyPostS,results,Tryz.results80]
set_option maxHeartbeats 2000000 in
set_option maxRecDepth 100000 in
theorem query_catch0 (a e:Int) (pa pe pr:Nat) (x y n c d:Value) (older:List PanicEntry) (w:World) (ha:w.cell? ⟨pa,0,none⟩=some x) (he:w.cell? ⟨pe,0,none⟩=some y) (hn:w.cell? ⟨pr,0,none⟩=some n) (hc:w.cell? ⟨pr,1,none⟩=some c) (hd:w.cell? ⟨pr,2,none⟩=some d)
 (fa:w.frozen? ⟨pa,0,none⟩=false) (fe:w.frozen? ⟨pe,0,none⟩=false) (fn:w.frozen? ⟨pr,0,none⟩=false) (fc:w.frozen? ⟨pr,1,none⟩=false) (fd:w.frozen? ⟨pr,2,none⟩=false) (h1:pa≠pe) (h2:pa≠pr) (h3:pe≠pr) :
 CallsD Tryz.prog 80 #[.pointer (some ⟨pa,0,none⟩),.pointer (some ⟨pe,0,none⟩),.pointer (some ⟨pr,0,none⟩)] (.panicking ({ v:=faultV a e,recovered:=false }::older)) w fun x u' w' =>
  x=.returned (.tuple #[])/\u'=.panicking ({ v:=faultV a e,recovered:=true }::older) /\
  w'=((((((w.setCell ⟨pa,0,none⟩ (.int .i64 a)).setCell ⟨pe,0,none⟩ (.int .i64 e)).alloc (.cells #[.int .i64 a,.int .i64 e] 88)).drew).setCell ⟨pr,0,none⟩ (.string ⟨#[]⟩)).setCell ⟨pr,1,none⟩ (.slice none 0 0)).setCell ⟨pr,2,none⟩ (.slice none 0 0):=by
 have hcf:=caught_fault a e pa pe x y w ha he fa fe h1
 have HCF:=Lib.hid hcf
 clear hcf
 have hrl:=World.block_lt_of_cell? w _ hn
 simp at hrl
 have h2':pr≠pa:=fun q=>h2 q.symm
 have h3':pr≠pe:=fun q=>h3 q.symm
 have hm:Mod (fun k=>k=pa∨k=pe) w (((w.setCell ⟨pa,0,none⟩ (.int .i64 a)).setCell ⟨pe,0,none⟩ (.int .i64 e)).alloc (.cells #[.int .i64 a,.int .i64 e] 88)) :=
  (((Mod.refl _ w).setCell (p:=⟨pa,0,none⟩) (fun _=>.inl rfl) _).setCell (p:=⟨pe,0,none⟩) (fun _=>.inr rfl) _).alloc _
 have hno:¬ (pr=pa∨pr=pe):=fun q=>q.elim h2' h3'
 have k0:=(hm.cell (p:=⟨pr,0,none⟩) hrl hno).trans hn
 have k1:=(hm.cell (p:=⟨pr,1,none⟩) hrl hno).trans hc
 have k2:=(hm.cell (p:=⟨pr,2,none⟩) hrl hno).trans hd
 have y0:=(hm.frozen (p:=⟨pr,0,none⟩) hrl hno).trans fn
 have y1:=(hm.frozen (p:=⟨pr,1,none⟩) hrl hno).trans fc
 have y2:=(hm.frozen (p:=⟨pr,2,none⟩) hrl hno).trans fd
 clear hm hno ha he hn hc fa fe fn fc hd fd
 refine callsD_of_wpS Tryz.func80 rfl fun c₀ cs hu=>?_
 apply wpS_seq
 apply wpS_region
 simp [wpOpsS,go_sem,recoverD,hu,Tryz.ntmps80,Exit.thenS]
 refine HCF.out.mono ?_
 rintro e' w1 ⟨rfl,rfl⟩
 refine wpS_cond (t:=true) (by simp [Act.eval,Array.replicate]) ?_
 simp only[if_true]
 apply wpS_region
 simp [wpOpsS,go_sem,k0,k1,k2,y0,y1,y2,bodyPostS,results,Tryz.results80]
structure PQ (w0:World) (n:Nat) (cs:Array Value) (w:World):Prop where
 q:Blk w n 29 cs
 a:Blk w (n+1) 3 #[.int .i64 0]
 e:Blk w (n+1+1) 35 #[.int .i64 0]
 b:Below n w0 w
 s:n+3<=w.heap.size
section
variable {w0 w w' : World} {n : Nat} {cs : Array Value}
theorem PQ.below (h:PQ w0 n cs w) (hb:Below (n+3) w w'):PQ w0 n cs w' :=
 ⟨h.q.below hb (by omega),h.a.below hb (by omega),h.e.below hb (by omega),h.b.trans (hb.mono (by omega)),Nat.le_trans h.s hb.size⟩
theorem PQ.mt {Ts:List TypeId} (h:PQ w0 n cs w) (hm:MT (n+3) Ts w w'):PQ w0 n cs w':=h.below (hm.below h.s)
theorem PQ.keep (h:PQ w0 n cs w) (hb:Below w.heap.size w w'):PQ w0 n cs w':=h.below (hb.mono h.s)
theorem PQ.store (h:PQ w0 n cs w) (i:Nat) (u:Value):PQ w0 n (cs.setIfInBounds i u) (w.setCell ⟨n,i,none⟩ u) :=
 ⟨h.q.set_ i u,h.a.far (by intro q;simp only at q;omega) u,h.e.far (by intro q;simp only at q;omega) u,h.b.setCell (Nat.le_refl _) u,by simpa [World.setCell] using h.s⟩
end
theorem query_catch (a e:Int) {w0 w:World} {n:Nat} {x y z:Value} (h:PQ w0 n #[x,y,z] w) :
 CallsD Tryz.prog 80 #[.pointer (some ⟨n+1,0,none⟩),.pointer (some ⟨n+1+1,0,none⟩),.pointer (some ⟨n,0,none⟩)] (.panicking [{ v:=faultV a e,recovered:=false }]) w fun x u' w' =>
  x=.returned (.tuple #[])/\u'=.panicking [{ v:=faultV a e,recovered:=true }] /\
  w'.cell? ⟨n,0,none⟩=some (.string ⟨#[]⟩)/\w'.cell? ⟨n,1,none⟩=some (.slice none 0 0)/\w'.cell? ⟨n,2,none⟩=some (.slice none 0 0)/\w'.cell? ⟨n+1,0,none⟩=some (.int .i64 a)/\w'.cell? ⟨n+1+1,0,none⟩=some (.int .i64 e)/\Below n w0 w':=by
 have hs:=h.s
 refine (query_catch0 a e (n+1) (n+1+1) n _ _ _ _ _ [] w (h.a.cell 0) (h.e.cell 0) (h.q.cell 0) (h.q.cell 1) (h.q.cell 2) (h.a.frozen 0) (h.e.frozen 0) (h.q.frozen 0) (h.q.frozen 1) (h.q.frozen 2) (by omega) (by omega) (by omega)).mono ?_
 rintro e' u' w' ⟨rfl,rfl,rfl⟩
 have q1:=(((((h.q.far (p:=⟨n+1,0,none⟩) (by intro q;simp only at q;omega) (.int .i64 a)).far (p:=⟨n+1+1,0,none⟩) (by intro q;simp only at q;omega) (.int .i64 e)).alloc (.cells #[.int .i64 a,.int .i64 e] 88)).drew.set_ 0 (.string ⟨#[]⟩)).set_ 1 (.slice none 0 0)).set_ 2 (.slice none 0 0)
 have a1:=(((((h.a.set_ 0 (.int .i64 a)).far (p:=⟨n+1+1,0,none⟩) (by intro q;simp only at q;omega) (.int .i64 e)).alloc (.cells #[.int .i64 a,.int .i64 e] 88)).drew.far (p:=⟨n,0,none⟩) (by intro q;simp only at q;omega) (.string ⟨#[]⟩)).far (p:=⟨n,1,none⟩) (by intro q;simp only at q;omega) (.slice none 0 0)).far (p:=⟨n,2,none⟩) (by intro q;simp only at q;omega) (.slice none 0 0)
 have e1:=(((((h.e.far (p:=⟨n+1,0,none⟩) (by intro q;simp only at q;omega) (.int .i64 a)).set_ 0 (.int .i64 e)).alloc (.cells #[.int .i64 a,.int .i64 e] 88)).drew.far (p:=⟨n,0,none⟩) (by intro q;simp only at q;omega) (.string ⟨#[]⟩)).far (p:=⟨n,1,none⟩) (by intro q;simp only at q;omega) (.slice none 0 0)).far (p:=⟨n,2,none⟩) (by intro q;simp only at q;omega) (.slice none 0 0)
 refine⟨rfl,rfl,q1.cell 0,q1.cell 1,q1.cell 2,a1.cell 0,e1.cell 0,?_⟩
 have b1:=(((h.b.setCell (p:=⟨n+1,0,none⟩) (by simp only;omega) (.int .i64 a)).setCell (p:=⟨n+1+1,0,none⟩) (by simp only;omega) (.int .i64 e)).alloc (by simp [World.setCell];omega) (.cells #[.int .i64 a,.int .i64 e] 88))
 exact (((bdrew b1).setCell (Nat.le_refl _) _).setCell (Nat.le_refl _) _).setCell (Nat.le_refl _) _
def AtomsOwn (B:Nat) (w:World) (v:Value) (al:List Atm):Prop :=
 ∃ rows:List (List Value),w.ownsRow B 67 2 v al.length rows.flatten/\All2 (fun row (a:Atm)=>∃ tv,row=[.string ⟨a.rel.toArray⟩,tv]/\w.ownsRow B 71 4 tv a.ts.length (a.ts.flatMap Trm.cells)) rows al
def QPost (w:World):PR Qry->Ending->World->Prop
 | .bad a f,e,w'=>e=.returned (.tuple #[.agg #[.string ⟨#[]⟩,.slice none 0 0,.slice none 0 0],.int .i64 a,.int .i64 f])/\Below w.heap.size w w'
 | .ok q _,e,w'=>∃ hv av,e=.returned (.tuple #[.agg #[.string ⟨q.name.toArray⟩,hv,av],.int .i64 0,.int .i64 0])/\OwnS w.heap.size w' hv q.head/\AtomsOwn w.heap.size w' av q.atoms/\Below w.heap.size w w'
theorem PQ.start (w:World):PQ w w.heap.size #[.string ⟨#[]⟩,.slice none 0 0,.slice none 0 0] (((w.alloc (.cells #[.string ⟨#[]⟩,.slice none 0 0,.slice none 0 0] 29)).alloc (.cells #[.int .i64 0] 3)).alloc (.cells #[.int .i64 0] 35)):=by
 refine⟨((Blk.new w _ _).alloc _).alloc _,?_,?_,balloc (balloc (balloc (Below.refl _ _) _) _) _,by simp⟩
 ·have:=(Blk.new (w.alloc (.cells #[.string ⟨#[]⟩,.slice none 0 0,.slice none 0 0] 29)) 3 #[.int .i64 0]).alloc (.cells #[.int .i64 0] 35)
  simpa using this
 ·have:=Blk.new ((w.alloc (.cells #[.string ⟨#[]⟩,.slice none 0 0,.slice none 0 0] 29)).alloc (.cells #[.int .i64 0] 3)) 35 #[.int .i64 0]
  simpa using this
set_option maxHeartbeats 1000000 in
set_option maxRecDepth 100000 in
theorem parse_door {w0 w1:World} {a f:Int} {x y z:Value} {T:Array Value} (h:PQ w0 w0.heap.size #[x,y,z] w1) (h2:T[2]?.getD undef=.pointer (some ⟨w0.heap.size,0,none⟩)) (h3:T[3]?.getD undef=.pointer (some ⟨w0.heap.size+1,0,none⟩)) (h4:T[4]?.getD undef=.pointer (some ⟨w0.heap.size+1+1,0,none⟩)) :
 bodyPostD Tryz.prog Tryz.f25 (QPost w0 (.bad a f)) (Exit.panic [{ v:=faultV a f,recovered:=false }])
  { tmps:=T,defers:=[{ target:=Target.fn (Fn.func 80) #[.pointer (some ⟨w0.heap.size+1,0,none⟩),.pointer (some ⟨w0.heap.size+1+1,0,none⟩),.pointer (some ⟨w0.heap.size,0,none⟩)],args:=#[] }] } w1:=by
 refine leaves_cons (f:=80) (args:=#[.pointer (some ⟨w0.heap.size+1,0,none⟩),.pointer (some ⟨w0.heap.size+1+1,0,none⟩),.pointer (some ⟨w0.heap.size,0,none⟩)]) (by simp) (by simp [go_sem]) ?_
 refine (query_catch a f h).mono ?_
 rintro e u' w2 ⟨rfl,rfl,c0,c1,c2,c3,c4,hb⟩
 have HB:=Lib.hid hb
 clear hb h
 simp [Leaves,settle,results,Tryz.results25,go_sem,h2,h3,h4,c0,c1,c2,c3,c4]
 exact⟨rfl,HB.out⟩
set_option maxHeartbeats 4000000 in
set_option maxRecDepth 100000 in
theorem parse_bad (s:ByteArray) (w:World) (a f:Int) (hop:∀ W,Below w.heap.size w W->Calls Tryz.prog 40 #[.string s] W fun e w'=>e=.panicked [{ v:=faultV a f,recovered:=false }]/\Below W.heap.size W w') :
 Calls Tryz.prog 25 #[.string s] w (QPost w (.bad a f)):=by
 have hmf:∀ (fn:Fn) (first cap:Array Value) (w:World),(Instr.makeFunc fn first cap).run Tryz.prog w=.ok (.func fn first cap) w:=fun _ _ _ _=>rfl
 have hps:=PQ.start w
 have ho:=hop _ hps.b
 have HPS:=Lib.hid hps
 have HO:=Lib.hid ho
 clear hps ho hop
 go_enter_defers Tryz.func25,Tryz.ntmps25
 go_wp2_with fail
 refine HO.out.mono ?_
 rintro e w1 ⟨rfl,hb⟩
 have hp:=HPS.out.keep hb
 have HP:=Lib.hid hp
 clear hb hp
 go_wp2_with fail
 exact parse_door HP.out rfl rfl rfl
def AtsOwn (B0:Nat) (w:World) (v:Value) (xs:List AtP):Prop:=∃ css:List (List Value),w.ownsRow B0 145 3 v xs.length css.flatten/\All2 (AtR w) css xs
theorem AtR.mt {w w':World} {B:Nat} {Ts:List TypeId} {cs:List Value} {x:AtP} (h:AtR w cs x) (hm:MT B Ts w w') (ht:148 ∉ Ts):AtR w' cs x:=by
 obtain⟨tv,rfl,h2⟩:=h
 exact⟨tv,rfl,hm.ownsRow h2 ht⟩
theorem AtsOwn.mt {B0 B:Nat} {w w':World} {v:Value} {xs:List AtP} {Ts:List TypeId} (h:AtsOwn B0 w v xs) (hm:MT B Ts w w') (h1:145 ∉ Ts) (h2:148 ∉ Ts):AtsOwn B0 w' v xs:=by
 obtain⟨css,h3,h4⟩:=h
 exact⟨css,hm.ownsRow h3 h1,h4.mono fun c x hh=>hh.mt hm h2⟩
theorem AtsOwn.sl {B0:Nat} {w:World} {v:Value} {xs:List AtP} (h:AtsOwn B0 w v xs):∃ (a:Option Addr) (cap:Nat),v=.slice a xs.length cap:=by
 obtain⟨css,h3,h4⟩:=h
 exact own_sl h3
theorem map_flat {α:Type} (f:α->List Value) (l:List α):(l.map f).flatten=l.flatMap f:=by
 induction l with
 | nil=>rfl
 | cons a l ih=>simp [ih]
theorem all2_and {α β:Type} {R S:β->α->Prop}:∀ {bs:List β} {al:List α},All2 R bs al->(∀ b a,a∈al->R b a->S b a)->All2 S bs al
 | [],[],_,_=>trivial
 | _::_,_::_,h,hs=>⟨hs _ _ List.mem_cons_self h.1,all2_and h.2 fun b a ha=>hs b a (List.mem_cons_of_mem _ ha)⟩
 | [],_::_,h,_=>h.elim
 | _::_,[],h,_=>h.elim
theorem all2_mem {α β:Type} {R:β->α->Prop}:∀ {bs:List β} {al:List α},All2 R bs al->∀ b∈bs,∃ a,a∈al/\R b a
 | [],[],_,b,hb=>by simp at hb
 | b0::_,a0::_,h,b,hb=>by
   rcases List.mem_cons.1 hb with rfl | hb
   ·exact⟨a0,List.mem_cons_self,h.1⟩
   ·obtain⟨a,ha,hr⟩:=all2_mem h.2 b hb
    exact⟨a,List.mem_cons_of_mem _ ha,hr⟩
 | [],_::_,h,_,_=>h.elim
 | _::_,[],h,_,_=>h.elim
theorem AtsOwn.row {B0:Nat} {w:World} {v:Value} {xs:List AtP} (h:AtsOwn B0 w v xs) (hl:xs.length<=200000) (ht:∀ x∈xs,x.2.length<=200000):AtsAt w v xs:=by
 obtain⟨css,h3,h4⟩:=h
 have hll:=h4.length
 refine⟨css,RowAt.ofOwn h3 hll.symm ?_ (by omega),all2_and h4 fun c x hx hr=>?_⟩
 ·intro c hc
  obtain⟨x,_,tv,rfl,_⟩:=all2_mem h4 c hc
  rfl
 ·obtain⟨tv,rfl,ho⟩:=hr
  rw[<-map_flat] at ho
  refine⟨tv,rfl,RowAt.ofOwn ho (by simp) ?_ (by have:=ht x hx;simp;omega)⟩
  intro c hc
  simp at hc
  obtain⟨a,b,_,rfl⟩:=hc
  rfl
theorem namesRow {B0:Nat} {w:World} {v:Value} {hs:List (List UInt8 × Int)} (h:w.ownsRow B0 135 2 v hs.length (hs.flatMap nameV)) (hl:hs.length<=200000):RowAt w v 2 (hs.map nameV):=by
 rw[<-map_flat] at h
 refine RowAt.ofOwn h (by simp) ?_ (by simp;omega)
 intro c hc
 simp at hc
 obtain⟨a,b,_,rfl⟩:=hc
 rfl
theorem atoms_any {w:World} {b r:Nat} {c:List Tok} {vt:Value} {B:Nat} (hi:InB w b r) (h:Rs w r c vt) (hB:B<=r) (hw:B<=w.heap.size) :
 Calls Tryz.prog 85 #[.pointer (some ⟨r,0,none⟩),.func (.func 86) #[] #[.pointer (some ⟨b,0,none⟩)]] w
  (PPost (fun xs c' v w'=>AtsOwn w.heap.size w' v xs/\InB w' b r/\Rs w' r c' vt) B [177] w (someP atomP c)):=by
 refine (some_At atomP AtR (fun w _=>InB w b r) B [177] r vt #[.pointer (some ⟨b,0,none⟩)] atom_less hB (by simp) (by decide) (fun w w' xs hm hj=>hj.mt hm (by decide)) (fun _ _ _ _ hm h=>h.mt hm (by decide)) ?_ w c h hi hw).mono ?_
 ·intro w xs c hw hj hr
  refine (atomClo_any hj hr hB hw).mono fun e w' hp=>hp.mono fun x c' v w' hh=>?_
  obtain⟨cs,rfl,h1,h2,h3⟩:=hh
  refine⟨cs,rfl,⟨?_,?_,h1⟩,h2,h3⟩
  ·obtain⟨tv,rfl,_⟩:=h1
   rfl
  ·obtain⟨tv,rfl,ho⟩:=h1
   have h1:=own_one ho
   intro u hu
   simp only[List.mem_cons,List.not_mem_nil,or_false] at hu
   rcases hu with rfl | rfl | rfl
   ·rfl
   ·rfl
   ·exact h1
 ·intro e w' hp
  refine hp.mono fun xs c' v w' hh=>?_
  obtain⟨css,h1,h2,h3,h4⟩:=hh
  exact⟨⟨css,h1,h2.mono fun c x hh=>hh.2.2⟩,h3,h4⟩
def AtmO (B:Nat) (w:World) (row:List Value) (a:Atm):Prop:=∃ tv,row=[.string ⟨a.rel.toArray⟩,tv]/\w.ownsRow B 71 4 tv a.ts.length (a.ts.flatMap Trm.cells)
theorem AtmO.mt {B B':Nat} {w w':World} {row:List Value} {a:Atm} {Ts:List TypeId} (h:AtmO B w row a) (hm:MT B' Ts w w') (ht:71 ∉ Ts):AtmO B w' row a:=by
 obtain⟨tv,rfl,h2⟩:=h
 exact⟨tv,rfl,hm.ownsRow h2 ht⟩
theorem Tryz.infoTrm:(Tryz.prog.info? 71).map (fun i=>(i.zero,i.size,i.bytes))=some (some (.agg #[.string ⟨#[]⟩,.int .i64 0,.int .i64 0,.string ⟨#[]⟩]),4,48):=by kernel_rfl
theorem Tryz.infoAtm:(Tryz.prog.info? 67).map (fun i=>(i.zero,i.size,i.bytes))=some (some (.agg #[.string ⟨#[]⟩,.slice none 0 0]),2,40):=by kernel_rfl
def convA (a:AtP):Atm:=⟨a.1.1,a.2.map (·.1)⟩
theorem qryOf_atoms (n:List UInt8 × Int) (hs:List (List UInt8 × Int)) (l:List AtP):(qryOf n hs l).atoms=l.map convA:=rfl
theorem limG_small:∀ {l:List AtP},limG l=none->∀ a∈l,a.2.length<=5
 | [],_,a,ha=>by simp at ha
 | b::l,h,a,ha=>by
   unfold limG at h
   cases hb:b.2[5]? with
   | some t=>rw[hb] at h;simp at h
   | none =>
     rw[hb] at h
     have h5:b.2.length<=5:=List.getElem?_eq_none_iff.1 hb
     rcases List.mem_cons.1 ha with rfl | ha
     ·exact h5
     ·exact limG_small h a ha
theorem lim_small {l:List AtP} (h:limP l=none):l.length<=6/\∀ a∈l,a.2.length<=5:=by
 unfold limP at h
 cases h6:l[6]? with
 | some a=>rw[h6] at h;simp at h
 | none =>
   rw[h6] at h
   exact⟨List.getElem?_eq_none_iff.1 h6,limG_small h⟩
theorem tsum_small:∀ {l:List AtP},(∀ a∈l,a.2.length<=5)->tsum (l.map convA)<=5 * l.length
 | [],_=>by simp [tsum]
 | a::l,h=>by
   have h1:=tsum_small (l:=l) fun a ha=>h a (List.mem_cons_of_mem _ ha)
   have h2:=h a List.mem_cons_self
   simp only[tsum,List.map_cons,List.sum_cons,convA,List.length_map,List.length_cons] at h1 ⊢
   omega
theorem dup_range:∀ (l:List (List UInt8)) (seen:List (List UInt8)) (i:Nat),0<=dupG seen l i->∃ j:Nat,dupG seen l i=j/\i<=j/\j<i+l.length
 | [],seen,i,h=>by simp [dupG] at h
 | s::r,seen,i,h=>by
   unfold dupG at h ⊢
   split
   ·exact⟨i,rfl,Nat.le_refl _,by simp⟩
   ·rename_i hc
    rw[if_neg hc] at h
    obtain⟨j,h1,h2,h3⟩:=dup_range r _ _ h
    exact⟨j,h1,by omega,by simp;omega⟩
theorem idxP_range {p:List Value->Bool} {xs:List (List Value)} (h:0<=idxP p xs):∃ j:Nat,idxP p xs=j/\j<xs.length:=by
 unfold idxP at h ⊢
 cases hf:xs.findIdx? p with
 | none=>rw[hf] at h;simp at h
 | some i =>
   obtain⟨hi,_⟩:=List.findIdx?_eq_some_iff_getElem.1 hf
   exact⟨i,rfl,hi⟩
theorem atomsRow {B:Nat} {w:World} {v:Value} {n:Nat} {rows:List (List Value)} {al:List Atm} (h:w.ownsRow B 67 2 v n rows.flatten) (hn:n=al.length) (h2:All2 (AtmO B w) rows al) (hl:al.length<=200000) (ht:∀ a∈al,a.ts.length<=200000):AtomsAt w v al:=by
 have hll:=h2.length
 refine⟨rows,RowAt.ofOwn h (by omega) ?_ (by omega),all2_and h2 fun c x hx hr=>?_⟩
 ·intro c hc
  obtain⟨x,_,tv,rfl,_⟩:=all2_mem h2 c hc
  rfl
 ·obtain⟨tv,rfl,ho⟩:=hr
  rw[<-map_flat] at ho
  refine⟨tv,rfl,RowAt.ofOwn ho (by simp) ?_ (by have:=ht x hx;simp;omega),by have:=ht x hx;omega⟩
  intro c hc
  simp at hc
  obtain⟨a,_,rfl⟩:=hc
  rfl
theorem PQ.fin {w0 w:World} {n:Nat} {x y z:Value} (h:PQ w0 n #[x,y,z] w) :
 PQ w0 n #[x,y,z] (((((w.setCell ⟨n,0,none⟩ x).setCell ⟨n,1,none⟩ y).setCell ⟨n,2,none⟩ z).setCell ⟨n+1,0,none⟩ (.int .i64 0)).setCell ⟨n+1+1,0,none⟩ (.int .i64 0)) /\
 MT 0 [29,3,35] w (((((w.setCell ⟨n,0,none⟩ x).setCell ⟨n,1,none⟩ y).setCell ⟨n,2,none⟩ z).setCell ⟨n+1,0,none⟩ (.int .i64 0)).setCell ⟨n+1+1,0,none⟩ (.int .i64 0)):=by
 have h1:=h.store 0 x
 have h2:=h1.store 1 y
 have h3:=h2.store 2 z
 have a4:=h3.a.set_ 0 (.int .i64 0)
 have q4:=h3.q.far (p:=⟨n+1,0,none⟩) (by intro q;simp only at q;omega) (.int .i64 0)
 have e4:=h3.e.far (p:=⟨n+1,0,none⟩) (by intro q;simp only at q;omega) (.int .i64 0)
 have e5:=e4.set_ 0 (.int .i64 0)
 have q5:=q4.far (p:=⟨n+1+1,0,none⟩) (by intro q;simp only at q;omega) (.int .i64 0)
 have a5:=a4.far (p:=⟨n+1+1,0,none⟩) (by intro q;simp only at q;omega) (.int .i64 0)
 simp only[Array.setIfInBounds] at q5 a5 e5
 refine⟨⟨by simpa using q5,by simpa using a5,by simpa using e5,(h3.b.setCell (by simp only;omega) _).setCell (by simp only;omega) _,by simpa [World.setCell] using h.s⟩,?_⟩
 have m1:MT 0 [29,3,35] w _:=MT.setCell (i:=0) (MT.refl w) h.q (by simp) (Nat.zero_le _) x
 have m2:=MT.setCell (i:=1) m1 h1.q (by simp) (Nat.zero_le _) y
 have m3:=MT.setCell (i:=2) m2 h2.q (by simp) (Nat.zero_le _) z
 have m4:=MT.setCell (i:=0) m3 h3.a (by simp) (Nat.zero_le _) (.int .i64 0)
 exact MT.setCell (i:=0) m4 e4 (by simp) (Nat.zero_le _) (.int .i64 0)
set_option maxHeartbeats 1000000 in
set_option maxRecDepth 100000 in
theorem parse_exit {w0 w1:World} {x y z:Value} {T:Array Value} {Post:Ending->World->Prop} (h:PQ w0 w0.heap.size #[x,y,z] w1) (h2:T[2]?.getD undef=.pointer (some ⟨w0.heap.size,0,none⟩)) (h3:T[3]?.getD undef=.pointer (some ⟨w0.heap.size+1,0,none⟩)) (h4:T[4]?.getD undef=.pointer (some ⟨w0.heap.size+1+1,0,none⟩))
 (hx:x.oneCell'=true) (hy:y.oneCell'=true) (hz:z.oneCell'=true)
 (hp:Post (.returned (.tuple #[.agg #[x,y,z],.int .i64 0,.int .i64 0])) w1) :
 bodyPostD Tryz.prog Tryz.f25 Post Exit.ret
  { tmps:=T,defers:=[{ target:=Target.fn (Fn.func 80) #[.pointer (some ⟨w0.heap.size+1,0,none⟩),.pointer (some ⟨w0.heap.size+1+1,0,none⟩),.pointer (some ⟨w0.heap.size,0,none⟩)],args:=#[] }] } w1:=by
 have c0:=h.q.cell 0
 have c1:=h.q.cell 1
 have c2:=h.q.cell 2
 have c3:=h.a.cell 0
 have c4:=h.e.cell 0
 simp only[List.getElem?_toArray,List.getElem?_cons_zero,List.getElem?_cons_succ] at c0 c1 c2 c3 c4
 have HP:=Lib.hid hp
 clear hp h
 refine leaves_cons (f:=80) (args:=#[.pointer (some ⟨w0.heap.size+1,0,none⟩),.pointer (some ⟨w0.heap.size+1+1,0,none⟩),.pointer (some ⟨w0.heap.size,0,none⟩)]) (by simp) (by simp [go_sem]) ?_
 refine (query_idle _ _ _ _).mono ?_
 rintro e u' w2 ⟨rfl,rfl,rfl⟩
 simp [Leaves,settle,results,Tryz.results25,go_sem,h2,h3,h4,c0,c1,c2,c3,c4]
 exact HP.out
end Go.Proofs.YtamjadghncnbcaaGreatDoor
