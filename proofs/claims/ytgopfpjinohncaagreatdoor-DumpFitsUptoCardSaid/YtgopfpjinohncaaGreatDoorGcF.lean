/- query.Parse's atoms, read: -/
import Derived.Test.YtgopfpjinohncaaGreatDoorGbF
import Derived.Deep.RegionHeld3
set_option maxHeartbeats 8000000
set_option maxRecDepth 100000
set_option linter.unusedVariables false
namespace Go.Proofs.YtgopfpjinohncaaGreatDoor
open Go.Proofs.Tryz
open Go.RowKit
def C9 (w:World) (cs:List Value) (x:(List UInt8 × Int) × List (dd × Int)):Prop :=
 ∃ tv,cs=[.string ⟨x.1.1.toArray⟩,.int .i64 x.1.2,tv]/\w.ownsRow 0 234 5 tv x.2.length (x.2.flatMap gV)
theorem xi {c:List ak} {a e:Int} (h:aY c=.bad a e):bS c=.bad a e:=by
 unfold bS
 rw[h]
theorem yF {c c1:List ak} {x:List UInt8 × Int} {a e:Int} (h:aY c=.ok x c1) (h2:aJ bK c1=.bad a e):bS c=.bad a e:=by
 unfold bS
 rw[h]
 simp only[h2]
theorem Cn {c c1 c2:List ak} {x:List UInt8 × Int} {l:List (dd × Int)} (h:aY c=.ok x c1) (h2:aJ bK c1=.ok l c2):bS c=.ok (x,l) c2:=by
 unfold bS
 rw[h]
 simp only[h2]
theorem CD {w:World} {base:Nat} {e:TypeId} {size n:Nat} {v:Value} {xs:List Value} (h:w.ownsRow base e size v n xs):v.oneCell'=true:=by
 rcases h.2 with ⟨rfl,_⟩ | ⟨g,cap,cur,rfl,_⟩<;>rfl
theorem qg {w:World} {b r:Nat} {c:List ak} {vt:Value} {B:Nat} (hi:dD w b r) (h:Rs w r c vt) (hB:B<=r) (hw:B<=w.heap.size) {a e:Int} (h0:aY c=.bad a e) :
 Calls prog 135 #[.pointer (some ⟨b,0,none⟩)] w (aX (fun x c' v w'=>∃ cs,v=.agg cs.toArray/\C9 w' cs x/\dD w' b r/\Rs w' r c' vt) B [213] w (bS c)):=by
 have hmf:∀ (fn:Fn) (first cap:Array Value) (w:World),(Instr.makeFunc fn first cap).run prog w=.ok (.func fn first cap) w:=fun _ _ _ _=>rfl
 have hb0:Below w.heap.size w (w.alloc (.cells #[.string ⟨#[]⟩,.int .i64 0,.slice none 0 0] 231)).drew:=ay (ae Fy _)
 have zb:af (w.alloc (.cells #[.string ⟨#[]⟩,.int .i64 0,.slice none 0 0] 231)).drew w.heap.size 231 #[.string ⟨#[]⟩,.int .i64 0,.slice none 0 0]:=af.drew (af.new w _ _)
 have hi1:dD (w.alloc (.cells #[.string ⟨#[]⟩,.int .i64 0,.slice none 0 0] 231)).drew b r:=af.drew (af.alloc hi _)
 have hnm:=iI (B:=B) (h.keep hb0) hB
 have hbl:=af.lt hi
 have HI1:=Fx hi1
 have HB0:=Fx hb0
 have ZB:=Fx zb
 clear h hb0 zb hi hi1
 rw[h0] at hnm
 rw[xi h0]
 have HNM:=Fx hnm
 clear h0 hnm
 go_enter func135,ntmps135
 go_wp2_with fail
 refine wp_region_any (by kernel_rfl) ?_
 try (change wpAny _ _ _ _ _ _ _ (World.drew _))
 have x0:=af.cell HI1.out 0
 simp at x0
 refine wpAny_take (i:=3) (v:=?_) rfl (by kernel_rfl) (by kernel_rfl) (by kernel_rfl) (fun _ _ _ h=>h) (Or.inl ⟨by rfl,?_⟩) ?_
 rotate_left
 ·intro w
  go_simp
  with_reducible rfl
 refine wpAny_ready (rs:=[0,2]) (by kernel_rfl) (by simp) ?_
 refine AllReady.cons rfl (fun K hK=>?_) (AllReady.cons rfl (fun K hK=>?_) AllReady.nil)
 ·go_simp
  refine hK _ _ ?_
  clear hK K
  refine wpAny_ready (rs:=[1,2]) (by kernel_rfl) (by simp) ?_
  refine AllReady.cons rfl (fun K hK=>?_) (AllReady.cons rfl (fun K hK=>?_) AllReady.nil)
  ·go_simp
   refine HNM.out.mono ?_
   rintro e' w1 ⟨rfl,hm⟩
   exact⟨rfl,az ((MT.ofBelow HB0.out).trans hm)⟩
  ·go_simp
   refine hK _ _ ?_
   clear hK K
   refine wpAny_ready (rs:=[1]) (by kernel_rfl) (by simp) ?_
   refine AllReady.cons rfl (fun K hK=>?_) AllReady.nil
   go_simp
   refine HNM.out.mono ?_
   rintro e' w1 ⟨rfl,hm⟩
   exact⟨rfl,az ((MT.ofBelow HB0.out).trans hm)⟩
 ·go_simp
  refine hK _ _ ?_
  clear hK K
  refine wpAny_ready (rs:=[0]) (by kernel_rfl) (by simp) ?_
  refine AllReady.cons rfl (fun K hK=>?_) AllReady.nil
  go_simp
  refine hK _ _ ?_
  clear hK K
  refine wpAny_ready (rs:=[1]) (by kernel_rfl) (by simp) ?_
  refine AllReady.cons rfl (fun K hK=>?_) AllReady.nil
  go_simp
  refine HNM.out.mono ?_
  rintro e' w1 ⟨rfl,hm⟩
  exact⟨rfl,az ((MT.ofBelow HB0.out).trans hm)⟩
theorem rB {w:World} {b r:Nat} {c:List ak} {vt:Value} {B:Nat} (hi:dD w b r) (h:Rs w r c vt) (hB:B<=r) (hw:B<=w.heap.size) {x:List UInt8 × Int} {c1:List ak} {a e:Int} (h0:aY c=.ok x c1) (hlt:aJ bK c1=.bad a e) :
 Calls prog 135 #[.pointer (some ⟨b,0,none⟩)] w (aX (fun x c' v w'=>∃ cs,v=.agg cs.toArray/\C9 w' cs x/\dD w' b r/\Rs w' r c' vt) B [213] w (bS c)):=by
 have hmf:∀ (fn:Fn) (first cap:Array Value) (w:World),(Instr.makeFunc fn first cap).run prog w=.ok (.func fn first cap) w:=fun _ _ _ _=>rfl
 have hb0:Below w.heap.size w (w.alloc (.cells #[.string ⟨#[]⟩,.int .i64 0,.slice none 0 0] 231)).drew:=ay (ae Fy _)
 have zb:af (w.alloc (.cells #[.string ⟨#[]⟩,.int .i64 0,.slice none 0 0] 231)).drew w.heap.size 231 #[.string ⟨#[]⟩,.int .i64 0,.slice none 0 0]:=af.drew (af.new w _ _)
 have hi1:dD (w.alloc (.cells #[.string ⟨#[]⟩,.int .i64 0,.slice none 0 0] 231)).drew b r:=af.drew (af.alloc hi _)
 have hnm:=iI (B:=B) (h.keep hb0) hB
 have hbl:=af.lt hi
 have HI1:=Fx hi1
 have HB0:=Fx hb0
 have ZB:=Fx zb
 clear h hb0 zb hi hi1
 rw[h0] at hnm
 have HNM:=Fx hnm
 have H0:=Fx h0
 clear h0 hnm
 rw[yF H0.out hlt]
 have HLT:=Fx hlt
 clear hlt
 go_enter func135,ntmps135
 go_wp2_with fail
 refine wp_region_any (by kernel_rfl) ?_
 try (change wpAny _ _ _ _ _ _ _ (World.drew _))
 have x0:=af.cell HI1.out 0
 simp at x0
 refine wpAny_take (i:=3) (v:=?_) rfl (by kernel_rfl) (by kernel_rfl) (by kernel_rfl) (fun _ _ _ h=>h) (Or.inl ⟨by rfl,?_⟩) ?_
 rotate_left
 ·intro w
  go_simp
  with_reducible rfl
 refine wpAny_ready (rs:=[0,2]) (by kernel_rfl) (by simp) ?_
 refine AllReady.cons rfl (fun K hK=>?_) (AllReady.cons rfl (fun K hK=>?_) AllReady.nil)
 ·go_simp
  refine hK _ _ ?_
  clear hK K
  refine wpAny_ready (rs:=[1,2]) (by kernel_rfl) (by simp) ?_
  refine AllReady.cons rfl (fun K hK=>?_) (AllReady.cons rfl (fun K hK=>?_) AllReady.nil)
  ·go_simp
   refine HNM.out.mono ?_
   rintro e' w1 ⟨v1,rfl,⟨rfl,hr1⟩,hm⟩
   have hi2:=HI1.out.mt hm (by decide)
   have zb2:=ZB.out.mt hm (by decide)
   have hsz1:=hm.size
   have x1:=af.cell hi2 0
   simp at x1
   have hlt:=eU (B:=B) hi2 hr1 hB (by have:=HB0.out.size;omega)
   rw[HLT.out] at hlt
   have HL:=Fx hlt
   have ZB2:=Fx zb2
   have HM:=Fx ((MT.ofBelow HB0.out).trans hm)
   clear hlt zb2 hi2 hr1 hm
   unfold dw
   go_simp
   refine hK _ _ ?_
   clear hK K
   refine wpAny_ready (rs:=[2]) (by kernel_rfl) (by simp) ?_
   refine AllReady.cons rfl (fun K hK=>?_) AllReady.nil
   go_simp
   refine hK _ _ ?_
   clear hK K
   refine wpAny_ready (rs:=[4]) (by kernel_rfl) (by simp) ?_
   refine AllReady.cons rfl (fun K hK=>?_) AllReady.nil
   go_simp
   refine HL.out.mono ?_
   rintro e' w2 ⟨rfl,hm2⟩
   exact⟨rfl,az (HM.out.trans hm2)⟩
  ·go_simp
   refine hK _ _ ?_
   clear hK K
   refine wpAny_ready (rs:=[1]) (by kernel_rfl) (by simp) ?_
   refine AllReady.cons rfl (fun K hK=>?_) AllReady.nil
   go_simp
   refine HNM.out.mono ?_
   rintro e' w1 ⟨v1,rfl,⟨rfl,hr1⟩,hm⟩
   have hi2:=HI1.out.mt hm (by decide)
   have zb2:=ZB.out.mt hm (by decide)
   have hsz1:=hm.size
   have x1:=af.cell hi2 0
   simp at x1
   have hlt:=eU (B:=B) hi2 hr1 hB (by have:=HB0.out.size;omega)
   rw[HLT.out] at hlt
   have HL:=Fx hlt
   have ZB2:=Fx zb2
   have HM:=Fx ((MT.ofBelow HB0.out).trans hm)
   clear hlt zb2 hi2 hr1 hm
   unfold dw
   go_simp
   refine hK _ _ ?_
   clear hK K
   refine wpAny_ready (rs:=[4]) (by kernel_rfl) (by simp) ?_
   refine AllReady.cons rfl (fun K hK=>?_) AllReady.nil
   go_simp
   refine HL.out.mono ?_
   rintro e' w2 ⟨rfl,hm2⟩
   exact⟨rfl,az (HM.out.trans hm2)⟩
 ·go_simp
  refine hK _ _ ?_
  clear hK K
  refine wpAny_ready (rs:=[0]) (by kernel_rfl) (by simp) ?_
  refine AllReady.cons rfl (fun K hK=>?_) AllReady.nil
  go_simp
  refine hK _ _ ?_
  clear hK K
  refine wpAny_ready (rs:=[1]) (by kernel_rfl) (by simp) ?_
  refine AllReady.cons rfl (fun K hK=>?_) AllReady.nil
  go_simp
  refine HNM.out.mono ?_
  rintro e' w1 ⟨v1,rfl,⟨rfl,hr1⟩,hm⟩
  have hi2:=HI1.out.mt hm (by decide)
  have zb2:=ZB.out.mt hm (by decide)
  have hsz1:=hm.size
  have x1:=af.cell hi2 0
  simp at x1
  have hlt:=eU (B:=B) hi2 hr1 hB (by have:=HB0.out.size;omega)
  rw[HLT.out] at hlt
  have HL:=Fx hlt
  have ZB2:=Fx zb2
  have HM:=Fx ((MT.ofBelow HB0.out).trans hm)
  clear hlt zb2 hi2 hr1 hm
  unfold dw
  go_simp
  refine hK _ _ ?_
  clear hK K
  refine wpAny_ready (rs:=[4]) (by kernel_rfl) (by simp) ?_
  refine AllReady.cons rfl (fun K hK=>?_) AllReady.nil
  go_simp
  refine HL.out.mono ?_
  rintro e' w2 ⟨rfl,hm2⟩
  exact⟨rfl,az (HM.out.trans hm2)⟩
theorem we {w:World} {b r:Nat} {c:List ak} {vt:Value} {B:Nat} (hi:dD w b r) (h:Rs w r c vt) (hB:B<=r) (hw:B<=w.heap.size) {x:List UInt8 × Int} {c1 c2:List ak} {l:List (dd × Int)} (h0:aY c=.ok x c1) (hlt:aJ bK c1=.ok l c2) :
 Calls prog 135 #[.pointer (some ⟨b,0,none⟩)] w (aX (fun x c' v w'=>∃ cs,v=.agg cs.toArray/\C9 w' cs x/\dD w' b r/\Rs w' r c' vt) B [213] w (bS c)):=by
 have hmf:∀ (fn:Fn) (first cap:Array Value) (w:World),(Instr.makeFunc fn first cap).run prog w=.ok (.func fn first cap) w:=fun _ _ _ _=>rfl
 have hb0:Below w.heap.size w (w.alloc (.cells #[.string ⟨#[]⟩,.int .i64 0,.slice none 0 0] 231)).drew:=ay (ae Fy _)
 have zb:af (w.alloc (.cells #[.string ⟨#[]⟩,.int .i64 0,.slice none 0 0] 231)).drew w.heap.size 231 #[.string ⟨#[]⟩,.int .i64 0,.slice none 0 0]:=af.drew (af.new w _ _)
 have hi1:dD (w.alloc (.cells #[.string ⟨#[]⟩,.int .i64 0,.slice none 0 0] 231)).drew b r:=af.drew (af.alloc hi _)
 have hnm:=iI (B:=B) (h.keep hb0) hB
 have hbl:=af.lt hi
 have HI1:=Fx hi1
 have HB0:=Fx hb0
 have ZB:=Fx zb
 clear h hb0 zb hi hi1
 rw[h0] at hnm
 have HNM:=Fx hnm
 have H0:=Fx h0
 clear h0 hnm
 rw[Cn H0.out hlt]
 have HLT:=Fx hlt
 clear hlt
 go_enter func135,ntmps135
 go_wp2_with fail
 refine wp_region_any (by kernel_rfl) ?_
 try (change wpAny _ _ _ _ _ _ _ (World.drew _))
 have x0:=af.cell HI1.out 0
 simp at x0
 refine wpAny_take (i:=3) (v:=?_) rfl (by kernel_rfl) (by kernel_rfl) (by kernel_rfl) (fun _ _ _ h=>h) (Or.inl ⟨by rfl,?_⟩) ?_
 rotate_left
 ·intro w
  go_simp
  with_reducible rfl
 refine wpAny_ready (rs:=[0,2]) (by kernel_rfl) (by simp) ?_
 refine AllReady.cons rfl (fun K hK=>?_) (AllReady.cons rfl (fun K hK=>?_) AllReady.nil)
 ·go_simp
  refine hK _ _ ?_
  clear hK K
  refine wpAny_ready (rs:=[1,2]) (by kernel_rfl) (by simp) ?_
  refine AllReady.cons rfl (fun K hK=>?_) (AllReady.cons rfl (fun K hK=>?_) AllReady.nil)
  ·go_simp
   refine HNM.out.mono ?_
   rintro e' w1 ⟨v1,rfl,⟨rfl,hr1⟩,hm⟩
   have hi2:=HI1.out.mt hm (by decide)
   have zb2:=ZB.out.mt hm (by decide)
   have hsz1:=hm.size
   have x1:=af.cell hi2 0
   simp at x1
   have hlt:=eU (B:=B) hi2 hr1 hB (by have:=HB0.out.size;omega)
   rw[HLT.out] at hlt
   have HL:=Fx hlt
   have ZB2:=Fx zb2
   have HM:=Fx ((MT.ofBelow HB0.out).trans hm)
   clear hlt zb2 hi2 hr1 hm
   unfold dw
   go_simp
   refine hK _ _ ?_
   clear hK K
   refine wpAny_ready (rs:=[2]) (by kernel_rfl) (by simp) ?_
   refine AllReady.cons rfl (fun K hK=>?_) AllReady.nil
   go_simp
   refine hK _ _ ?_
   clear hK K
   refine wpAny_ready (rs:=[4]) (by kernel_rfl) (by simp) ?_
   refine AllReady.cons rfl (fun K hK=>?_) AllReady.nil
   go_simp
   refine HL.out.mono ?_
   rintro e' w2 ⟨tv,rfl,⟨hown,hi3,hr3⟩,hm2⟩
   obtain⟨ta,tc,rfl⟩:=aB hown
   have zb3:=ZB2.out.mt hm2 (by decide)
   have ZB3:=Fx zb3
   have HOWN:=Fx (World.ownsRow.low hown (Fz))
   have HI3:=Fx hi3
   have HR3:=Fx hr3
   have HM2:=Fx (HM.out.trans hm2)
   clear zb3 hown hi3 hr3 hm2
   go_simp
   refine hK _ _ ?_
   clear hK K
   refine wpAny_ready (rs:=[5]) (by kernel_rfl) (by simp) ?_
   refine AllReady.cons rfl (fun K hK=>?_) AllReady.nil
   go_simp
   refine hK _ _ ?_
   clear hK K
   refine wpAny_ready (rs:=[6]) (by kernel_rfl) (by simp) ?_
   refine AllReady.cons rfl (fun K hK=>?_) AllReady.nil
   refine dM rfl 231 _ _ rfl w.heap.size 231 _ _ rfl rfl ZB3.out (by kernel_rfl) rfl ?_ ?_
   ·simp [Value.oneCell']
   intro w3 hb3 hm3 hz3
   have r0:=hb3.cell 0
   have r1:=hb3.cell 1
   have r2:=hb3.cell 2
   simp only[FF] at r0 r1 r2
   have mt3:MT 0 [231] w2 w3:=MT.ofMod hm3 ZB3.out (by simp) (Fz)
   have HM3:=Fx (HM2.out.own hm3 FA)
   have HR4:=Fx (HR3.out.mt mt3 (by decide) (by decide))
   have HI4:=Fx (HI3.out.mt mt3 (by decide))
   have HO4:=Fx (mt3.ownsRow HOWN.out (by decide))
   clear hb3 hm3 hz3 mt3
   go_simp
   refine hK _ _ ?_
   clear hK K
   refine wpAny_done (by kernel_rfl) ?_ _
   go_wp2_with fail
   exact bodyPost_ret (v:=.agg #[.string ⟨x.1.toArray⟩,.int .i64 x.2,.slice ta l.length tc]) (by simp [results,results135,go_sem, *]) rfl ⟨_,rfl,⟨_,rfl,⟨_,rfl,HO4.out⟩,HI4.out,HR4.out⟩,HM3.out⟩
  ·go_simp
   refine hK _ _ ?_
   clear hK K
   refine wpAny_ready (rs:=[1]) (by kernel_rfl) (by simp) ?_
   refine AllReady.cons rfl (fun K hK=>?_) AllReady.nil
   go_simp
   refine HNM.out.mono ?_
   rintro e' w1 ⟨v1,rfl,⟨rfl,hr1⟩,hm⟩
   have hi2:=HI1.out.mt hm (by decide)
   have zb2:=ZB.out.mt hm (by decide)
   have hsz1:=hm.size
   have x1:=af.cell hi2 0
   simp at x1
   have hlt:=eU (B:=B) hi2 hr1 hB (by have:=HB0.out.size;omega)
   rw[HLT.out] at hlt
   have HL:=Fx hlt
   have ZB2:=Fx zb2
   have HM:=Fx ((MT.ofBelow HB0.out).trans hm)
   clear hlt zb2 hi2 hr1 hm
   unfold dw
   go_simp
   refine hK _ _ ?_
   clear hK K
   refine wpAny_ready (rs:=[4]) (by kernel_rfl) (by simp) ?_
   refine AllReady.cons rfl (fun K hK=>?_) AllReady.nil
   go_simp
   refine HL.out.mono ?_
   rintro e' w2 ⟨tv,rfl,⟨hown,hi3,hr3⟩,hm2⟩
   obtain⟨ta,tc,rfl⟩:=aB hown
   have zb3:=ZB2.out.mt hm2 (by decide)
   have ZB3:=Fx zb3
   have HOWN:=Fx (World.ownsRow.low hown (Fz))
   have HI3:=Fx hi3
   have HR3:=Fx hr3
   have HM2:=Fx (HM.out.trans hm2)
   clear zb3 hown hi3 hr3 hm2
   go_simp
   refine hK _ _ ?_
   clear hK K
   refine wpAny_ready (rs:=[5]) (by kernel_rfl) (by simp) ?_
   refine AllReady.cons rfl (fun K hK=>?_) AllReady.nil
   go_simp
   refine hK _ _ ?_
   clear hK K
   refine wpAny_ready (rs:=[6]) (by kernel_rfl) (by simp) ?_
   refine AllReady.cons rfl (fun K hK=>?_) AllReady.nil
   refine dM rfl 231 _ _ rfl w.heap.size 231 _ _ rfl rfl ZB3.out (by kernel_rfl) rfl ?_ ?_
   ·simp [Value.oneCell']
   intro w3 hb3 hm3 hz3
   have r0:=hb3.cell 0
   have r1:=hb3.cell 1
   have r2:=hb3.cell 2
   simp only[FF] at r0 r1 r2
   have mt3:MT 0 [231] w2 w3:=MT.ofMod hm3 ZB3.out (by simp) (Fz)
   have HM3:=Fx (HM2.out.own hm3 FA)
   have HR4:=Fx (HR3.out.mt mt3 (by decide) (by decide))
   have HI4:=Fx (HI3.out.mt mt3 (by decide))
   have HO4:=Fx (mt3.ownsRow HOWN.out (by decide))
   clear hb3 hm3 hz3 mt3
   go_simp
   refine hK _ _ ?_
   clear hK K
   refine wpAny_done (by kernel_rfl) ?_ _
   go_wp2_with fail
   exact bodyPost_ret (v:=.agg #[.string ⟨x.1.toArray⟩,.int .i64 x.2,.slice ta l.length tc]) (by simp [results,results135,go_sem, *]) rfl ⟨_,rfl,⟨_,rfl,⟨_,rfl,HO4.out⟩,HI4.out,HR4.out⟩,HM3.out⟩
 ·go_simp
  refine hK _ _ ?_
  clear hK K
  refine wpAny_ready (rs:=[0]) (by kernel_rfl) (by simp) ?_
  refine AllReady.cons rfl (fun K hK=>?_) AllReady.nil
  go_simp
  refine hK _ _ ?_
  clear hK K
  refine wpAny_ready (rs:=[1]) (by kernel_rfl) (by simp) ?_
  refine AllReady.cons rfl (fun K hK=>?_) AllReady.nil
  go_simp
  refine HNM.out.mono ?_
  rintro e' w1 ⟨v1,rfl,⟨rfl,hr1⟩,hm⟩
  have hi2:=HI1.out.mt hm (by decide)
  have zb2:=ZB.out.mt hm (by decide)
  have hsz1:=hm.size
  have x1:=af.cell hi2 0
  simp at x1
  have hlt:=eU (B:=B) hi2 hr1 hB (by have:=HB0.out.size;omega)
  rw[HLT.out] at hlt
  have HL:=Fx hlt
  have ZB2:=Fx zb2
  have HM:=Fx ((MT.ofBelow HB0.out).trans hm)
  clear hlt zb2 hi2 hr1 hm
  unfold dw
  go_simp
  refine hK _ _ ?_
  clear hK K
  refine wpAny_ready (rs:=[4]) (by kernel_rfl) (by simp) ?_
  refine AllReady.cons rfl (fun K hK=>?_) AllReady.nil
  go_simp
  refine HL.out.mono ?_
  rintro e' w2 ⟨tv,rfl,⟨hown,hi3,hr3⟩,hm2⟩
  obtain⟨ta,tc,rfl⟩:=aB hown
  have zb3:=ZB2.out.mt hm2 (by decide)
  have ZB3:=Fx zb3
  have HOWN:=Fx (World.ownsRow.low hown (Fz))
  have HI3:=Fx hi3
  have HR3:=Fx hr3
  have HM2:=Fx (HM.out.trans hm2)
  clear zb3 hown hi3 hr3 hm2
  go_simp
  refine hK _ _ ?_
  clear hK K
  refine wpAny_ready (rs:=[5]) (by kernel_rfl) (by simp) ?_
  refine AllReady.cons rfl (fun K hK=>?_) AllReady.nil
  go_simp
  refine hK _ _ ?_
  clear hK K
  refine wpAny_ready (rs:=[6]) (by kernel_rfl) (by simp) ?_
  refine AllReady.cons rfl (fun K hK=>?_) AllReady.nil
  refine dM rfl 231 _ _ rfl w.heap.size 231 _ _ rfl rfl ZB3.out (by kernel_rfl) rfl ?_ ?_
  ·simp [Value.oneCell']
  intro w3 hb3 hm3 hz3
  have r0:=hb3.cell 0
  have r1:=hb3.cell 1
  have r2:=hb3.cell 2
  simp only[FF] at r0 r1 r2
  have mt3:MT 0 [231] w2 w3:=MT.ofMod hm3 ZB3.out (by simp) (Fz)
  have HM3:=Fx (HM2.out.own hm3 FA)
  have HR4:=Fx (HR3.out.mt mt3 (by decide) (by decide))
  have HI4:=Fx (HI3.out.mt mt3 (by decide))
  have HO4:=Fx (mt3.ownsRow HOWN.out (by decide))
  clear hb3 hm3 hz3 mt3
  go_simp
  refine hK _ _ ?_
  clear hK K
  refine wpAny_done (by kernel_rfl) ?_ _
  go_wp2_with fail
  exact bodyPost_ret (v:=.agg #[.string ⟨x.1.toArray⟩,.int .i64 x.2,.slice ta l.length tc]) (by simp [results,results135,go_sem, *]) rfl ⟨_,rfl,⟨_,rfl,⟨_,rfl,HO4.out⟩,HI4.out,HR4.out⟩,HM3.out⟩
theorem ue {w:World} {b r:Nat} {c:List ak} {vt:Value} {B:Nat} (hi:dD w b r) (h:Rs w r c vt) (hB:B<=r) (hw:B<=w.heap.size) :
 Calls prog 135 #[.pointer (some ⟨b,0,none⟩)] w (aX (fun x c' v w'=>∃ cs,v=.agg cs.toArray/\C9 w' cs x/\dD w' b r/\Rs w' r c' vt) B [213] w (bS c)):=by
 cases h0:aY c with
 | bad a e =>
   have:=qg hi h hB hw h0
   exact this
 | ok x c1 =>
   cases hlt:aJ bK c1 with
   | bad a e=>exact rB hi h hB hw h0 hlt
   | ok l c2=>exact we hi h hB hw h0 hlt
theorem uK (p q r:Addr) (w:World) :
 CallsD prog 129 #[.pointer (some p),.pointer (some q),.pointer (some r)] .returning w fun e u' w'=>e=.returned (.tuple #[])/\u'=.returning/\w'=w:=by
 have hc:=gD p q w
 refine callsD_of_wpS func129 rfl fun c₀ cs hu=>?_
 apply wpS_seq
 apply wpS_region
 simp [wpOpsS,go_sem,recoverD,hu,ntmps129,Exit.thenS]
 refine hc.mono ?_
 rintro e w1 ⟨rfl,rfl⟩
 refine wpS_cond (t:=false) (by simp [Act.eval,Array.replicate]) ?_
 simp only[Bool.false_eq_true,if_false]
 refine wpS_of_wp (wp_skip ?_)
 cases c₀
 simp_all [bodyPostS,results,results129]
theorem rj (a e:Int) (pa pe pr:Nat) (x y n c d:Value) (older:List PanicEntry) (w:World) (ha:w.cell? ⟨pa,0,none⟩=some x) (he:w.cell? ⟨pe,0,none⟩=some y) (hn:w.cell? ⟨pr,0,none⟩=some n) (hc:w.cell? ⟨pr,1,none⟩=some c) (hd:w.cell? ⟨pr,2,none⟩=some d)
 (fa:w.frozen? ⟨pa,0,none⟩=false) (fe:w.frozen? ⟨pe,0,none⟩=false) (fn:w.frozen? ⟨pr,0,none⟩=false) (fc:w.frozen? ⟨pr,1,none⟩=false) (fd:w.frozen? ⟨pr,2,none⟩=false) (h1:pa≠pe) (h2:pa≠pr) (h3:pe≠pr) :
 CallsD prog 129 #[.pointer (some ⟨pa,0,none⟩),.pointer (some ⟨pe,0,none⟩),.pointer (some ⟨pr,0,none⟩)] (.panicking ({ v:=aP a e,recovered:=false }::older)) w fun x u' w' =>
  x=.returned (.tuple #[])/\u'=.panicking ({ v:=aP a e,recovered:=true }::older) /\
  w'=((((((w.setCell ⟨pa,0,none⟩ (.int .i64 a)).setCell ⟨pe,0,none⟩ (.int .i64 e)).alloc (.cells #[.int .i64 a,.int .i64 e] 126)).drew).setCell ⟨pr,0,none⟩ (.string ⟨#[]⟩)).setCell ⟨pr,1,none⟩ (.slice none 0 0)).setCell ⟨pr,2,none⟩ (.slice none 0 0):=by
 have hcf:=eL a e pa pe x y w ha he fa fe h1
 have HCF:=Fx hcf
 clear hcf
 have hrl:=World.block_lt_of_cell? w _ hn
 simp at hrl
 have h2':pr≠pa:=fun q=>h2 q.symm
 have h3':pr≠pe:=fun q=>h3 q.symm
 have hm:aq (fun k=>k=pa∨k=pe) w (((w.setCell ⟨pa,0,none⟩ (.int .i64 a)).setCell ⟨pe,0,none⟩ (.int .i64 e)).alloc (.cells #[.int .i64 a,.int .i64 e] 126)) :=
  (((aq.refl _ w).setCell (p:=⟨pa,0,none⟩) (fun _=>.inl rfl) _).setCell (p:=⟨pe,0,none⟩) (fun _=>.inr rfl) _).alloc _
 have hno:¬ (pr=pa∨pr=pe):=fun q=>q.elim h2' h3'
 have k0:=(hm.cell (p:=⟨pr,0,none⟩) hrl hno).trans hn
 have k1:=(hm.cell (p:=⟨pr,1,none⟩) hrl hno).trans hc
 have k2:=(hm.cell (p:=⟨pr,2,none⟩) hrl hno).trans hd
 have y0:=(hm.frozen (p:=⟨pr,0,none⟩) hrl hno).trans fn
 have y1:=(hm.frozen (p:=⟨pr,1,none⟩) hrl hno).trans fc
 have y2:=(hm.frozen (p:=⟨pr,2,none⟩) hrl hno).trans fd
 clear hm hno ha he hn hc fa fe fn fc hd fd
 refine callsD_of_wpS func129 rfl fun c₀ cs hu=>?_
 apply wpS_seq
 apply wpS_region
 simp [wpOpsS,go_sem,recoverD,hu,ntmps129,Exit.thenS]
 refine HCF.out.mono ?_
 rintro e' w1 ⟨rfl,rfl⟩
 refine wpS_cond (t:=true) (by simp [Act.eval,Array.replicate]) ?_
 simp only[if_true]
 apply wpS_region
 simp [wpOpsS,go_sem,k0,k1,k2,y0,y1,y2,bodyPostS,results,results129]
structure PQ (w0:World) (n:Nat) (cs:Array Value) (w:World):Prop where
 q:af w n 50 cs
 a:af w (n+1) 3 #[.int .i64 0]
 e:af w (n+1+1) 29 #[.int .i64 0]
 b:Below n w0 w
 s:n+3<=w.heap.size
section
variable {w0 w w' : World} {n : Nat} {cs : Array Value}
theorem PQ.below (h:PQ w0 n cs w) (hb:Below (n+3) w w'):PQ w0 n cs w' :=
 ⟨h.q.below hb (by omega),h.a.below hb (by omega),h.e.below hb (by omega),h.b.trans (hb.mono (by omega)),Nat.le_trans h.s hb.size⟩
theorem PQ.mt {Ts:List TypeId} (h:PQ w0 n cs w) (hm:MT (n+3) Ts w w'):PQ w0 n cs w':=h.below (hm.below h.s)
theorem PQ.keep (h:PQ w0 n cs w) (hb:Below w.heap.size w w'):PQ w0 n cs w':=h.below (hb.mono h.s)
theorem PQ.store (h:PQ w0 n cs w) (i:Nat) (u:Value):PQ w0 n (cs.setIfInBounds i u) (w.setCell ⟨n,i,none⟩ u) :=
 ⟨h.q.set_ i u,h.a.far (by intro q;simp only at q;omega) u,h.e.far (by intro q;simp only at q;omega) u,h.b.setCell FA u,by simpa [World.setCell] using h.s⟩
end
theorem tD (a e:Int) {w0 w:World} {n:Nat} {x y z:Value} (h:PQ w0 n #[x,y,z] w) :
 CallsD prog 129 #[.pointer (some ⟨n+1,0,none⟩),.pointer (some ⟨n+1+1,0,none⟩),.pointer (some ⟨n,0,none⟩)] (.panicking [{ v:=aP a e,recovered:=false }]) w fun x u' w' =>
  x=.returned (.tuple #[])/\u'=.panicking [{ v:=aP a e,recovered:=true }] /\
  w'.cell? ⟨n,0,none⟩=some (.string ⟨#[]⟩)/\w'.cell? ⟨n,1,none⟩=some (.slice none 0 0)/\w'.cell? ⟨n,2,none⟩=some (.slice none 0 0)/\w'.cell? ⟨n+1,0,none⟩=some (.int .i64 a)/\w'.cell? ⟨n+1+1,0,none⟩=some (.int .i64 e)/\Below n w0 w':=by
 have hs:=h.s
 refine (rj a e (n+1) (n+1+1) n _ _ _ _ _ [] w (h.a.cell 0) (h.e.cell 0) (h.q.cell 0) (h.q.cell 1) (h.q.cell 2) (h.a.frozen 0) (h.e.frozen 0) (h.q.frozen 0) (h.q.frozen 1) (h.q.frozen 2) (by omega) (by omega) (by omega)).mono ?_
 rintro e' u' w' ⟨rfl,rfl,rfl⟩
 have q1:=(((((h.q.far (p:=⟨n+1,0,none⟩) (by intro q;simp only at q;omega) (.int .i64 a)).far (p:=⟨n+1+1,0,none⟩) (by intro q;simp only at q;omega) (.int .i64 e)).alloc (.cells #[.int .i64 a,.int .i64 e] 126)).drew.set_ 0 (.string ⟨#[]⟩)).set_ 1 (.slice none 0 0)).set_ 2 (.slice none 0 0)
 have a1:=(((((h.a.set_ 0 (.int .i64 a)).far (p:=⟨n+1+1,0,none⟩) (by intro q;simp only at q;omega) (.int .i64 e)).alloc (.cells #[.int .i64 a,.int .i64 e] 126)).drew.far (p:=⟨n,0,none⟩) (by intro q;simp only at q;omega) (.string ⟨#[]⟩)).far (p:=⟨n,1,none⟩) (by intro q;simp only at q;omega) (.slice none 0 0)).far (p:=⟨n,2,none⟩) (by intro q;simp only at q;omega) (.slice none 0 0)
 have e1:=(((((h.e.far (p:=⟨n+1,0,none⟩) (by intro q;simp only at q;omega) (.int .i64 a)).set_ 0 (.int .i64 e)).alloc (.cells #[.int .i64 a,.int .i64 e] 126)).drew.far (p:=⟨n,0,none⟩) (by intro q;simp only at q;omega) (.string ⟨#[]⟩)).far (p:=⟨n,1,none⟩) (by intro q;simp only at q;omega) (.slice none 0 0)).far (p:=⟨n,2,none⟩) (by intro q;simp only at q;omega) (.slice none 0 0)
 refine⟨rfl,rfl,q1.cell 0,q1.cell 1,q1.cell 2,a1.cell 0,e1.cell 0,?_⟩
 have b1:=(((h.b.setCell (p:=⟨n+1,0,none⟩) (by simp only;omega) (.int .i64 a)).setCell (p:=⟨n+1+1,0,none⟩) (by simp only;omega) (.int .i64 e)).alloc (by simp [World.setCell];omega) (.cells #[.int .i64 a,.int .i64 e] 126))
 exact (((ay b1).setCell FA _).setCell FA _).setCell FA _
def cm (B:Nat) (w:World) (v:Value) (al:List eb):Prop :=
 ∃ rows:List (List Value),w.ownsRow B 105 2 v al.length rows.flatten/\aH (fun row (a:eb)=>∃ tv,row=[.string ⟨a.rel.toArray⟩,tv]/\w.ownsRow B 113 4 tv a.ts.length (a.ts.flatMap dd.cells)) rows al
def kF (w:World):PR cf->Ending->World->Prop
 | .bad a f,e,w'=>e=.returned (.tuple #[.agg #[.string ⟨#[]⟩,.slice none 0 0,.slice none 0 0],.int .i64 a,.int .i64 f])/\Below w.heap.size w w'
 | .ok q _,e,w'=>∃ hv av,e=.returned (.tuple #[.agg #[.string ⟨q.name.toArray⟩,hv,av],.int .i64 0,.int .i64 0])/\aV w.heap.size w' hv q.head/\cm w.heap.size w' av q.atoms/\Below w.heap.size w w'
theorem PQ.start (w:World):PQ w w.heap.size #[.string ⟨#[]⟩,.slice none 0 0,.slice none 0 0] (((w.alloc (.cells #[.string ⟨#[]⟩,.slice none 0 0,.slice none 0 0] 50)).alloc (.cells #[.int .i64 0] 3)).alloc (.cells #[.int .i64 0] 29)):=by
 refine⟨((af.new w _ _).alloc _).alloc _,?_,?_,ae (ae (ae Fy _) _) _,by simp⟩
 ·have:=(af.new (w.alloc (.cells #[.string ⟨#[]⟩,.slice none 0 0,.slice none 0 0] 50)) 3 #[.int .i64 0]).alloc (.cells #[.int .i64 0] 29)
  simpa using this
 ·have:=af.new ((w.alloc (.cells #[.string ⟨#[]⟩,.slice none 0 0,.slice none 0 0] 50)).alloc (.cells #[.int .i64 0] 3)) 29 #[.int .i64 0]
  simpa using this
theorem cC {w0 w1:World} {a f:Int} {x y z:Value} {T:Array Value} (h:PQ w0 w0.heap.size #[x,y,z] w1) (h2:T[2]?.getD undef=.pointer (some ⟨w0.heap.size,0,none⟩)) (h3:T[3]?.getD undef=.pointer (some ⟨w0.heap.size+1,0,none⟩)) (h4:T[4]?.getD undef=.pointer (some ⟨w0.heap.size+1+1,0,none⟩)) :
 bodyPostD prog Tryz.f61 (kF w0 (.bad a f)) (Exit.panic [{ v:=aP a f,recovered:=false }])
  { tmps:=T,defers:=[{ target:=Target.fn (Fn.func 129) #[.pointer (some ⟨w0.heap.size+1,0,none⟩),.pointer (some ⟨w0.heap.size+1+1,0,none⟩),.pointer (some ⟨w0.heap.size,0,none⟩)],args:=#[] }] } w1:=by
 refine leaves_cons (f:=129) (args:=#[.pointer (some ⟨w0.heap.size+1,0,none⟩),.pointer (some ⟨w0.heap.size+1+1,0,none⟩),.pointer (some ⟨w0.heap.size,0,none⟩)]) (by simp) (by simp [go_sem]) ?_
 refine (tD a f h).mono ?_
 rintro e u' w2 ⟨rfl,rfl,c0,c1,c2,c3,c4,hb⟩
 have HB:=Fx hb
 clear hb h
 simp [Leaves,settle,results,results61,go_sem,h2,h3,h4,c0,c1,c2,c3,c4]
 exact⟨rfl,HB.out⟩
theorem xD (s:ByteArray) (w:World) (a f:Int) (hop:∀ W,Below w.heap.size w W->Calls prog 54 #[.string s] W fun e w'=>e=.panicked [{ v:=aP a f,recovered:=false }]/\Below W.heap.size W w') :
 Calls prog 61 #[.string s] w (kF w (.bad a f)):=by
 have hmf:∀ (fn:Fn) (first cap:Array Value) (w:World),(Instr.makeFunc fn first cap).run prog w=.ok (.func fn first cap) w:=fun _ _ _ _=>rfl
 have hps:=PQ.start w
 have ho:=hop _ hps.b
 have HPS:=Fx hps
 have HO:=Fx ho
 clear hps ho hop
 go_enter_defers func61,ntmps61
 go_wp2_with fail
 refine HO.out.mono ?_
 rintro e w1 ⟨rfl,hb⟩
 have hp:=HPS.out.keep hb
 have HP:=Fx hp
 clear hb hp
 go_wp2_with fail
 exact cC HP.out rfl rfl rfl
def fb (B0:Nat) (w:World) (v:Value) (xs:List eZ):Prop:=∃ css:List (List Value),w.ownsRow B0 231 3 v xs.length css.flatten/\aH (C9 w) css xs
theorem C9.mt {w w':World} {B:Nat} {Ts:List TypeId} {cs:List Value} {x:eZ} (h:C9 w cs x) (hm:MT B Ts w w') (ht:234 ∉ Ts):C9 w' cs x:=by
 obtain⟨tv,rfl,h2⟩:=h
 exact⟨tv,rfl,hm.ownsRow h2 ht⟩
theorem fb.mt {B0 B:Nat} {w w':World} {v:Value} {xs:List eZ} {Ts:List TypeId} (h:fb B0 w v xs) (hm:MT B Ts w w') (h1:231 ∉ Ts) (h2:234 ∉ Ts):fb B0 w' v xs:=by
 obtain⟨css,h3,h4⟩:=h
 exact⟨css,hm.ownsRow h3 h1,h4.mono fun c x hh=>hh.mt hm h2⟩
theorem fb.sl {B0:Nat} {w:World} {v:Value} {xs:List eZ} (h:fb B0 w v xs):∃ (a:Option Addr) (cap:Nat),v=.slice a xs.length cap:=by
 obtain⟨css,h3,h4⟩:=h
 exact aB h3
theorem iq {α:Type} (f:α->List Value) (l:List α):(l.map f).flatten=l.flatMap f:=by
 induction l with
 | nil=>rfl
 | cons a l ih=>simp [ih]
theorem ep {α β:Type} {R S:β->α->Prop}:∀ {bs:List β} {al:List α},aH R bs al->(∀ b a,a∈al->R b a->S b a)->aH S bs al
 | [],[],_,_=>trivial
 | _::_,_::_,h,hs=>⟨hs _ _ List.mem_cons_self h.1,ep h.2 fun b a ha=>hs b a (List.mem_cons_of_mem _ ha)⟩
 | [],_::_,h,_=>h.elim
 | _::_,[],h,_=>h.elim
theorem bm {α β:Type} {R:β->α->Prop}:∀ {bs:List β} {al:List α},aH R bs al->∀ b∈bs,∃ a,a∈al/\R b a
 | [],[],_,b,hb=>by simp at hb
 | b0::_,a0::_,h,b,hb=>by
   rcases List.mem_cons.1 hb with rfl | hb
   ·exact⟨a0,List.mem_cons_self,h.1⟩
   ·obtain⟨a,ha,hr⟩:=bm h.2 b hb
    exact⟨a,List.mem_cons_of_mem _ ha,hr⟩
 | [],_::_,h,_,_=>h.elim
 | _::_,[],h,_,_=>h.elim
theorem fb.row {B0:Nat} {w:World} {v:Value} {xs:List eZ} (h:fb B0 w v xs) (hl:xs.length<=200000) (ht:∀ x∈xs,x.2.length<=200000):iu w v xs:=by
 obtain⟨css,h3,h4⟩:=h
 have hll:=h4.length
 refine⟨css,aj.ofOwn h3 hll.symm ?_ (by omega),ep h4 fun c x hx hr=>?_⟩
 ·intro c hc
  obtain⟨x,_,tv,rfl,_⟩:=bm h4 c hc
  rfl
 ·obtain⟨tv,rfl,ho⟩:=hr
  rw[<-iq] at ho
  refine⟨tv,rfl,aj.ofOwn ho (by simp) ?_ (by have:=ht x hx;simp;omega)⟩
  intro c hc
  simp at hc
  obtain⟨a,b,_,rfl⟩:=hc
  rfl
theorem uj {B0:Nat} {w:World} {v:Value} {hs:List (List UInt8 × Int)} (h:w.ownsRow B0 221 2 v hs.length (hs.flatMap dw)) (hl:hs.length<=200000):aj w v 2 (hs.map dw):=by
 rw[<-iq] at h
 refine aj.ofOwn h (by simp) ?_ (by simp;omega)
 intro c hc
 simp at hc
 obtain⟨a,b,_,rfl⟩:=hc
 rfl
theorem xx {w:World} {b r:Nat} {c:List ak} {vt:Value} {B:Nat} (hi:dD w b r) (h:Rs w r c vt) (hB:B<=r) (hw:B<=w.heap.size) :
 Calls prog 134 #[.pointer (some ⟨r,0,none⟩),.func (.func 135) #[] #[.pointer (some ⟨b,0,none⟩)]] w
  (aX (fun xs c' v w'=>fb w.heap.size w' v xs/\dD w' b r/\Rs w' r c' vt) B [213] w (aQ bS c)):=by
 refine (CI bS C9 (fun w _=>dD w b r) B [213] r vt #[.pointer (some ⟨b,0,none⟩)] eS hB (by simp) (by decide) (fun w w' xs hm hj=>hj.mt hm (by decide)) (fun _ _ _ _ hm h=>h.mt hm (by decide)) ?_ w c h hi hw).mono ?_
 ·intro w xs c hw hj hr
  refine (ue hj hr hB hw).mono fun e w' hp=>hp.mono fun x c' v w' hh=>?_
  obtain⟨cs,rfl,h1,h2,h3⟩:=hh
  refine⟨cs,rfl,⟨?_,?_,h1⟩,h2,h3⟩
  ·obtain⟨tv,rfl,_⟩:=h1
   rfl
  ·obtain⟨tv,rfl,ho⟩:=h1
   have h1:=CD ho
   intro u hu
   simp only[List.mem_cons,List.not_mem_nil,or_false] at hu
   rcases hu with rfl | rfl | rfl
   ·rfl
   ·rfl
   ·exact h1
 ·intro e w' hp
  refine hp.mono fun xs c' v w' hh=>?_
  obtain⟨css,h1,h2,h3,h4⟩:=hh
  exact⟨⟨css,h1,h2.mono fun c x hh=>hh.2.2⟩,h3,h4⟩
def mg (B:Nat) (w:World) (row:List Value) (a:eb):Prop:=∃ tv,row=[.string ⟨a.rel.toArray⟩,tv]/\w.ownsRow B 113 4 tv a.ts.length (a.ts.flatMap dd.cells)
theorem mg.mt {B B':Nat} {w w':World} {row:List Value} {a:eb} {Ts:List TypeId} (h:mg B w row a) (hm:MT B' Ts w w') (ht:113 ∉ Ts):mg B w' row a:=by
 obtain⟨tv,rfl,h2⟩:=h
 exact⟨tv,rfl,hm.ownsRow h2 ht⟩
theorem Tryz.infoTrm:(prog.info? 113).map (fun i=>(i.zero,i.size,i.bytes))=some (some (.agg #[.string ⟨#[]⟩,.int .i64 0,.int .i64 0,.string ⟨#[]⟩]),4,48):=by kernel_rfl
theorem Tryz.infoAtm:(prog.info? 105).map (fun i=>(i.zero,i.size,i.bytes))=some (some (.agg #[.string ⟨#[]⟩,.slice none 0 0]),2,40):=by kernel_rfl
def cH (a:eZ):eb:=⟨a.1.1,a.2.map (·.1)⟩
theorem fN (n:List UInt8 × Int) (hs:List (List UInt8 × Int)) (l:List eZ):(cJ n hs l).atoms=l.map cH:=rfl
theorem nZ:∀ {l:List eZ},fH l=none->∀ a∈l,a.2.length<=5
 | [],_,a,ha=>by simp at ha
 | b::l,h,a,ha=>by
   unfold fH at h
   cases hb:b.2[5]? with
   | some t=>rw[hb] at h;simp at h
   | none =>
     rw[hb] at h
     have h5:b.2.length<=5:=List.getElem?_eq_none_iff.1 hb
     rcases List.mem_cons.1 ha with rfl | ha
     ·exact h5
     ·exact nZ h a ha
theorem pb {l:List eZ} (h:nF l=none):l.length<=6/\∀ a∈l,a.2.length<=5:=by
 unfold nF at h
 cases h6:l[6]? with
 | some a=>rw[h6] at h;simp at h
 | none =>
   rw[h6] at h
   exact⟨List.getElem?_eq_none_iff.1 h6,nZ h⟩
theorem nj:∀ {l:List eZ},(∀ a∈l,a.2.length<=5)->fD (l.map cH)<=5 * l.length
 | [],_=>by simp [fD]
 | a::l,h=>by
   have h1:=nj (l:=l) fun a ha=>h a (List.mem_cons_of_mem _ ha)
   have h2:=h a List.mem_cons_self
   simp only[fD,List.map_cons,List.sum_cons,cH,List.length_map,List.length_cons] at h1 ⊢
   omega
theorem iY:∀ (l:List (List UInt8)) (seen:List (List UInt8)) (i:Nat),0<=gw seen l i->∃ j:Nat,gw seen l i=j/\i<=j/\j<i+l.length
 | [],seen,i,h=>by simp [gw] at h
 | s::r,seen,i,h=>by
   unfold gw at h ⊢
   split
   ·exact⟨i,rfl,FA,by simp⟩
   ·rename_i hc
    rw[if_neg hc] at h
    obtain⟨j,h1,h2,h3⟩:=iY r _ _ h
    exact⟨j,h1,by omega,by simp;omega⟩
theorem jO {p:List Value->Bool} {xs:List (List Value)} (h:0<=hC p xs):∃ j:Nat,hC p xs=j/\j<xs.length:=by
 unfold hC at h ⊢
 cases hf:xs.findIdx? p with
 | none=>rw[hf] at h;simp at h
 | some i =>
   obtain⟨hi,_⟩:=List.findIdx?_eq_some_iff_getElem.1 hf
   exact⟨i,rfl,hi⟩
theorem uf {B:Nat} {w:World} {v:Value} {n:Nat} {rows:List (List Value)} {al:List eb} (h:w.ownsRow B 105 2 v n rows.flatten) (hn:n=al.length) (h2:aH (mg B w) rows al) (hl:al.length<=200000) (ht:∀ a∈al,a.ts.length<=200000):aK w v al:=by
 have hll:=h2.length
 refine⟨rows,aj.ofOwn h (by omega) ?_ (by omega),ep h2 fun c x hx hr=>?_⟩
 ·intro c hc
  obtain⟨x,_,tv,rfl,_⟩:=bm h2 c hc
  rfl
 ·obtain⟨tv,rfl,ho⟩:=hr
  rw[<-iq] at ho
  refine⟨tv,rfl,aj.ofOwn ho (by simp) ?_ (by have:=ht x hx;simp;omega),by have:=ht x hx;omega⟩
  intro c hc
  simp at hc
  obtain⟨a,_,rfl⟩:=hc
  rfl
theorem PQ.fin {w0 w:World} {n:Nat} {x y z:Value} (h:PQ w0 n #[x,y,z] w) :
 PQ w0 n #[x,y,z] (((((w.setCell ⟨n,0,none⟩ x).setCell ⟨n,1,none⟩ y).setCell ⟨n,2,none⟩ z).setCell ⟨n+1,0,none⟩ (.int .i64 0)).setCell ⟨n+1+1,0,none⟩ (.int .i64 0)) /\
 MT 0 [50,3,29] w (((((w.setCell ⟨n,0,none⟩ x).setCell ⟨n,1,none⟩ y).setCell ⟨n,2,none⟩ z).setCell ⟨n+1,0,none⟩ (.int .i64 0)).setCell ⟨n+1+1,0,none⟩ (.int .i64 0)):=by
 have h1:=h.store 0 x
 have h2:=h1.store 1 y
 have h3:=h2.store 2 z
 have a4:=h3.a.set_ 0 (.int .i64 0)
 have q4:=h3.q.far (p:=⟨n+1,0,none⟩) (by intro q;simp only at q;omega) (.int .i64 0)
 have e4:=h3.e.far (p:=⟨n+1,0,none⟩) (by intro q;simp only at q;omega) (.int .i64 0)
 have e5:=e4.set_ 0 (.int .i64 0)
 have q5:=q4.far (p:=⟨n+1+1,0,none⟩) (by intro q;simp only at q;omega) (.int .i64 0)
 have a5:=a4.far (p:=⟨n+1+1,0,none⟩) (by intro q;simp only at q;omega) (.int .i64 0)
 simp only[Array.setIfInBounds] at q5 a5 e5
 refine⟨⟨by simpa using q5,by simpa using a5,by simpa using e5,(h3.b.setCell (by simp only;omega) _).setCell (by simp only;omega) _,by simpa [World.setCell] using h.s⟩,?_⟩
 have m1:MT 0 [50,3,29] w _:=MT.setCell (i:=0) (MT.refl w) h.q (by simp) (Fz) x
 have m2:=MT.setCell (i:=1) m1 h1.q (by simp) (Fz) y
 have m3:=MT.setCell (i:=2) m2 h2.q (by simp) (Fz) z
 have m4:=MT.setCell (i:=0) m3 h3.a (by simp) (Fz) (.int .i64 0)
 exact MT.setCell (i:=0) m4 e4 (by simp) (Fz) (.int .i64 0)
theorem vF {w0 w1:World} {x y z:Value} {T:Array Value} {Post:Ending->World->Prop} (h:PQ w0 w0.heap.size #[x,y,z] w1) (h2:T[2]?.getD undef=.pointer (some ⟨w0.heap.size,0,none⟩)) (h3:T[3]?.getD undef=.pointer (some ⟨w0.heap.size+1,0,none⟩)) (h4:T[4]?.getD undef=.pointer (some ⟨w0.heap.size+1+1,0,none⟩))
 (hx:x.oneCell'=true) (hy:y.oneCell'=true) (hz:z.oneCell'=true)
 (hp:Post (.returned (.tuple #[.agg #[x,y,z],.int .i64 0,.int .i64 0])) w1) :
 bodyPostD prog Tryz.f61 Post Exit.ret
  { tmps:=T,defers:=[{ target:=Target.fn (Fn.func 129) #[.pointer (some ⟨w0.heap.size+1,0,none⟩),.pointer (some ⟨w0.heap.size+1+1,0,none⟩),.pointer (some ⟨w0.heap.size,0,none⟩)],args:=#[] }] } w1:=by
 have c0:=h.q.cell 0
 have c1:=h.q.cell 1
 have c2:=h.q.cell 2
 have c3:=h.a.cell 0
 have c4:=h.e.cell 0
 simp only[FF] at c0 c1 c2 c3 c4
 have HP:=Fx hp
 clear hp h
 refine leaves_cons (f:=129) (args:=#[.pointer (some ⟨w0.heap.size+1,0,none⟩),.pointer (some ⟨w0.heap.size+1+1,0,none⟩),.pointer (some ⟨w0.heap.size,0,none⟩)]) (by simp) (by simp [go_sem]) ?_
 refine (uK _ _ _ _).mono ?_
 rintro e u' w2 ⟨rfl,rfl,rfl⟩
 simp [Leaves,settle,results,results61,go_sem,h2,h3,h4,c0,c1,c2,c3,c4]
 exact HP.out
inductive LS where
 | bad (a e:Int)
 | ok (c:List ak)
def ce:List ak->ak
 | []=>fY
 | t::_=>t
def cF (k:Int) (x:List UInt8) (c:List ak):ak × LS:=if (ce c).k=k/\(x=[]∨(ce c).x=x) then (ce c,.ok (c.drop 1)) else (fY,.bad (ce c).p 80)
def aG (k:Int) (x:List UInt8):LS->ak × LS
 | .bad a e=>(fY,.bad a e)
 | .ok c=>cF k x c
def zA (k:Int) (x:List UInt8) (c:List ak):Bool:=decide ((ce c).k=k/\(ce c).x=x)
def D6 (k:Int) (x:List UInt8):LS->Bool
 | .bad _ _=>false
 | .ok c=>zA k x c
def im (n:Nat):LS->Bool × LS
 | .bad a e=>(false,.bad a e)
 | .ok c=>if n=0 then (!zA 3 [41] c,.ok c) else if zA 3 [44] c=true then (true,.ok (c.drop 1)) else (false,.ok c)
theorem se (n:Nat) (c:List ak):im n (.ok c)=if n=0 then (!zA 3 [41] c,.ok c) else if zA 3 [44] c=true then (true,.ok (c.drop 1)) else (false,.ok c):=rfl
def jl (a e:Int):LS->LS
 | .bad a' e'=>.bad a' e'
 | .ok _=>.bad a e
def li:LS->Nat
 | .bad _ _=>0
 | .ok c=>c.length+1
section
variable {α : Type}
def dJ (step:LS->α × LS):Nat->LS->List α->LS × List α
 | 0,s,ys=>(s,ys)
 | f+1,s,ys=>if (im ys.length s).1=true then dJ step f (step (im ys.length s).2).2 (ys++[(step (im ys.length s).2).1]) else (s,ys)
theorem lf (step:LS->α × LS) (f:Nat) {s:LS} {ys:List α} (h:(im ys.length s).1=false):dJ step f s ys=(s,ys):=by
 cases f with
 | zero=>rfl
 | succ f=>unfold dJ;rw[if_neg (by rw[h];decide)]
theorem sG (step:LS->α × LS) (f:Nat) {s:LS} {ys:List α} (h:(im ys.length s).1=true):dJ step (f+1) s ys=dJ step f (step (im ys.length s).2).2 (ys++[(step (im ys.length s).2).1]):=by
 rw[dJ,if_pos h]
theorem dI (step:LS->α × LS) (f:Nat) (a e:Int) (ys:List α):dJ step f (.bad a e) ys=(.bad a e,ys):=lf step f rfl
def iA (P:List ak->PR α) (step:LS->α × LS):Prop:=∀ c,bD c->match P c with
 | .bad a e=>(step (.ok c)).2=.bad a e
 | .ok x c'=>step (.ok c)=(x,.ok c')/\bD c'
theorem mK (m:List UInt8) (c:List ak):zA 3 m c=cV m c:=by
 cases c with
 | nil=>simp [zA,cV,ce,fY]
 | cons t r=>rfl
theorem yT {m:List UInt8} {c:List ak} (h:cV m c=true) (he:bD c):bD (c.drop 1):=by
 obtain⟨t,r,rfl⟩:=he.some
 have hh:t.k=3/\t.x=m:=by simpa [cV] using h
 exact bD.cons he (by rw[hh.1];decide)
theorem nw {P:List ak->PR α} {step:LS->α × LS} (hs:iA P step) (hl:dp P):∀ (f:Nat) (c:List ak) (ys:List α),ys≠[]->bD c->c.length+1<=f->match bz P ys c with
 | .bad a e=>(dJ step f (.ok c) ys).1=.bad a e
 | .ok xs c'=>dJ step f (.ok c) ys=(.ok c',xs)/\bD c':=by
 intro f
 induction f with
 | zero=>intro c ys _ _ h;omega
 | succ f ih =>
   intro c ys hy he hf
   have hn:ys.length≠0:=fun e=>hy (List.eq_nil_of_length_eq_zero e)
   cases him:cV [44] c with
   | false =>
     have hm:im ys.length (.ok c)=(false,.ok c):=by
      rw[se]
      rw[if_neg hn,mK,him]
      rfl
     rw[cY ys him]
     refine⟨lf step _ ?_,he⟩
     rw[hm]
   | true =>
     have hm:im ys.length (.ok c)=(true,.ok (c.drop 1)):=by
      rw[se]
      rw[if_neg hn,mK,him]
      rfl
     have he1:=yT him he
     have hst:=hs _ he1
     have hg:=sG step f (s:=.ok c) (ys:=ys) (by rw[hm])
     rw[hm] at hg
     simp only at hg
     rw[hg]
     cases hp:P (c.drop 1) with
     | bad a e =>
       rw[hp] at hst
       simp only at hst
       rw[ea ys him hp,hst,dI]
     | ok x c1 =>
       rw[hp] at hst
       obtain⟨h1,h2⟩:=hst
       obtain⟨h3,h4⟩:=dQ hl ys him hp
       rw[h3,h1]
       exact ih c1 (ys++[x]) (by simp) h2 (by omega)
theorem uY {P:List ak->PR α} {step:LS->α × LS} (hs:iA P step) (hl:dp P) (f:Nat) (c:List ak) (he:bD c) (hf:c.length+2<=f):match (if cV [41] c=true then (.ok [] c:PR (List α)) else aQ P c) with
 | .bad a e=>(dJ step f (.ok c) []).1=.bad a e
 | .ok xs c'=>dJ step f (.ok c) []=(.ok c',xs)/\bD c':=by
 cases him:cV [41] c with
 | true =>
   rw[if_pos rfl]
   refine⟨lf step _ ?_,he⟩
   show (!zA 3 [41] c)=false
   rw[mK,him]
   rfl
 | false =>
   rw[if_neg (by decide)]
   obtain⟨f,rfl⟩:∃ g,f=g+1:=⟨f - 1,by omega⟩
   have hm:im ([]:List α).length (.ok c)=(true,.ok c):=by
    show (!zA 3 [41] c,LS.ok c)=_
    rw[mK,him]
    rfl
   have hg:=sG step f (s:=.ok c) (ys:=[]) (by rw[hm])
   rw[hm] at hg
   simp only[List.nil_append] at hg
   rw[hg]
   have hst:=hs _ he
   cases hp:P c with
   | bad a e =>
     rw[hp] at hst
     simp only at hst
     rw[er hp,hst,dI]
   | ok x c1 =>
     rw[hp] at hst
     obtain⟨h1,h2⟩:=hst
     have h3:=hl _ _ _ hp
     rw[ek hp,h1]
     exact nw hs hl f c1 [x] (by simp) h2 (by omega)
def fI (step:LS->α × LS) (s:LS):List α × LS :=
 ((dJ step (li (aG 3 [40] s).2+1) (aG 3 [40] s).2 []).2,(aG 3 [41] (dJ step (li (aG 3 [40] s).2+1) (aG 3 [40] s).2 []).1).2)
end
theorem iJ {k:Int} {c:List ak} (h:bD c) (hk:k≠0):match tk k [] c with
 | .bad a e=>aG k [] (.ok c)=(fY,.bad a e)
 | .ok t r=>aG k [] (.ok c)=(t,.ok r)/\bD r:=by
 obtain⟨t,r,rfl⟩:=h.some
 by_cases hc:t.k=k
 ·have h1:tk k [] (t::r)=.ok t r:=by simp [tk,hc,hk]
  rw[h1]
  exact⟨by simp [aG,cF,ce,hc],h.cons (by omega)⟩
 ·have h1:tk k [] (t::r)=.bad t.p 80:=by simp [tk,hc]
  rw[h1]
  simp [aG,cF,ce,hc]
theorem n7 {k:Int} {m:List UInt8} {c:List ak} (h:bD c) (hk:k≠0) (hm:m≠[]):match tk k [m] c with
 | .bad a e=>aG k m (.ok c)=(fY,.bad a e)
 | .ok t r=>aG k m (.ok c)=(t,.ok r)/\bD r:=by
 obtain⟨t,r,rfl⟩:=h.some
 by_cases hc:t.k=k/\t.x=m
 ·have h1:tk k [m] (t::r)=.ok t r:=by simp [tk,hc.1,hc.2,hk]
  rw[h1]
  refine⟨?_,h.cons (by omega)⟩
  show cF k m (t::r)=_
  unfold cF
  rw[if_pos ⟨hc.1,.inr hc.2⟩]
  rfl
 ·have h1:tk k [m] (t::r)=.bad t.p 80:=by
   unfold tk
   refine if_neg ?_
   rintro ⟨h2,h3⟩
   rcases h3 with h3 | h3
   ·cases h3
   ·exact hc ⟨h2,by simpa using h3⟩
  rw[h1]
  show cF k m (t::r)=_
  unfold cF
  rw[if_neg]
  ·rfl
  ·rintro ⟨h2,h3⟩
   rcases h3 with h3 | h3
   ·exact hm h3
   ·exact hc ⟨h2,h3⟩
theorem nh {α:Type} {P:List ak->PR α} {step:LS->α × LS} (hs:iA P step) (hl:dp P):iA (aJ P) (fI step):=by
 intro c he
 have h1:=n7 (k:=3) (m:=[40]) he (by decide) (by decide)
 unfold aJ fI
 cases ho:tk 3 [[40]] c with
 | bad a e =>
   rw[ho] at h1
   simp only at h1
   simp only[h1,dI]
   rfl
 | ok t c1 =>
   rw[ho] at h1
   obtain⟨h1,he1⟩:=h1
   simp only[h1]
   have h2:=uY hs hl (li (.ok c1)+1) c1 he1 (by simp [li])
   cases hq:(if cV [41] c1=true then (.ok [] c1:PR (List α)) else aQ P c1) with
   | bad a e =>
     rw[hq] at h2
     simp only at h2 ⊢
     rw[h2]
     rfl
   | ok xs c2 =>
     rw[hq] at h2
     obtain⟨h2,he2⟩:=h2
     simp only[h2]
     have h3:=n7 (k:=3) (m:=[41]) he2 (by decide) (by decide)
     cases h4:tk 3 [[41]] c2 with
     | bad a e =>
       rw[h4] at h3
       simp only at h3 ⊢
       rw[h3]
     | ok u c3 =>
       rw[h4] at h3
       obtain⟨h3,he3⟩:=h3
       simp only[h3]
       exact⟨trivial,he3⟩
abbrev mJ:=List UInt8 × Int
def dP (s:LS):mJ × LS:=(((aG 1 [] s).1.x,(aG 1 [] s).1.p),(aG 1 [] s).2)
def nU:LS->(dd × Int) × LS
 | .bad a e=>((⟨[],0,0,[]⟩,0),.bad a e)
 | .ok c=>if (ce c).k=2 then ((⟨[],(ce c).vk,(ce c).vn,(ce c).vt⟩,(ce c).p),(cF 2 [] c).2) else ((⟨(cF 1 [] c).1.x,0,0,[]⟩,(ce c).p),(cF 1 [] c).2)
def ma (s:LS):eZ × LS:=(((dP s).1,(fI nU (dP s).2).1),(fI nU (dP s).2).2)
theorem nc:iA aY dP:=by
 intro c he
 have h1:=iJ (k:=1) he (by decide)
 unfold aY dP
 cases ho:tk 1 [] c with
 | bad a e =>
   rw[ho] at h1
   simp only at h1 ⊢
   rw[h1]
 | ok t c1 =>
   rw[ho] at h1
   obtain⟨h1,he1⟩:=h1
   simp only[h1]
   exact⟨trivial,he1⟩
theorem Ah:iA bK nU:=by
 intro c he
 have h1:=iJ (k:=1) he (by decide)
 have h2:=iJ (k:=2) he (by decide)
 obtain⟨t,r,rfl⟩:=he.some
 unfold bK
 by_cases hk:t.k=2
 ·have hl:kQ (t::r)=true:=by simp [kQ,hk]
  rw[if_pos hl]
  have ht:nU (.ok (t::r))=((⟨[],t.vk,t.vn,t.vt⟩,t.p),(cF 2 [] (t::r)).2):=by
   unfold nU
   exact if_pos hk
  rw[ht]
  cases ho:tk 2 [] (t::r) with
  | bad a e =>
    rw[ho] at h2
    simp only at h2 ⊢
    exact congrArg Prod.snd h2
  | ok t' c1 =>
    rw[ho] at h2
    obtain⟨h2,he1⟩:=h2
    have e1:t=t':=by
     have:=congrArg Prod.fst h2
     simpa [aG,cF,ce,hk] using this
    subst e1
    refine⟨?_,he1⟩
    rw[show cF 2 [] (t::r)=(t,.ok c1) from h2]
 ·have hl:¬ kQ (t::r)=true:=by simp [kQ,hk]
  rw[if_neg hl]
  have ht:nU (.ok (t::r))=((⟨(cF 1 [] (t::r)).1.x,0,0,[]⟩,t.p),(cF 1 [] (t::r)).2):=by
   unfold nU
   exact if_neg hk
  rw[ht]
  cases ho:tk 1 [] (t::r) with
  | bad a e =>
    rw[ho] at h1
    simp only at h1 ⊢
    exact congrArg Prod.snd h1
  | ok t' c1 =>
    rw[ho] at h1
    obtain⟨h1,he1⟩:=h1
    have hk1:t.k=1:=by
     by_cases hh:t.k=1
     ·exact hh
     ·simp [tk,hh] at ho
    have e1:t=t':=by
     have:=congrArg Prod.fst h1
     simpa [aG,cF,ce,hk1] using this
    subst e1
    refine⟨?_,he1⟩
    rw[show cF 1 [] (t::r)=(t,.ok c1) from h1]
theorem sn:iA bS ma:=by
 intro c he
 have h1:=nc c he
 unfold bS ma
 cases ho:aY c with
 | bad a e =>
   rw[ho] at h1
   simp only at h1 ⊢
   rw[h1]
   unfold fI
   simp only[aG,dI]
 | ok t c1 =>
   rw[ho] at h1
   obtain⟨h1,he1⟩:=h1
   simp only[h1]
   have h2:=nh Ah gn c1 he1
   cases h3:aJ bK c1 with
   | bad a e =>
     rw[h3] at h2
     exact h2
   | ok l c2 =>
     rw[h3] at h2
     obtain⟨h2,he2⟩:=h2
     simp only[h2]
     exact⟨trivial,he2⟩
def lj (l:List eZ):List Int:=l.filterMap fun a=>a.2[5]?.map (·.2)
def CW (l:List eZ) (s:LS):LS:=match l[6]? with
 | some a=>jl a.1.2 90 s
 | none=>s
def wV (l:List eZ) (s:LS):LS:=match (lj l)[0]? with
 | some p=>jl p 91 s
 | none=>s
def uD (hs:List mJ):Nat->Nat->LS->LS
 | 0,_,s=>s
 | m+1,k,s=>uD hs m (k+1) (match hs[k]? with
   | some h=>if iE (hs.map (·.1)) h.1<k then jl h.2 92 s else s
   | none=>s)
def od (V:List (List UInt8)) (hs:List mJ):Nat->Nat->LS->LS
 | 0,_,s=>s
 | m+1,k,s=>match s with
   | .bad a e=>.bad a e
   | .ok c=>od V hs m (k+1) (match hs[k]? with
     | some h=>if h.1∈V then .ok c else .bad h.2 93
     | none=>.ok c)
def dm (s:LS):LS × List eZ:=dJ ma (li (ma s).2) (ma s).2 [(ma s).1]
def ji (n:mJ) (hs:List mJ) (l:List eZ) (s:LS):LS :=
 od (cg (cJ n hs l).atoms) hs hs.length 0 (uD hs hs.length 0 (wV l (CW l s)))
def ki (s:LS) (q:cf):PR cf:=match s with
 | .bad a e=>.bad a e
 | .ok _=>.ok q []
def zI (s:LS):PR cf :=
 ki (ji (dP s).1 (fI dP (dP s).2).1 (dm (aG 3 [58,45] (fI dP (dP s).2).2).2).2 (aG 0 [] (dm (aG 3 [58,45] (fI dP (dP s).2).2).2).1).2)
  (cJ (dP s).1 (fI dP (dP s).2).1 (dm (aG 3 [58,45] (fI dP (dP s).2).2).2).2)
theorem gm (hs:List mJ) (a e:Int):∀ (m k:Nat),uD hs m k (.bad a e)=.bad a e
 | 0,_=>rfl
 | m+1,k=>by
   unfold uD
   cases hs[k]? with
   | none=>exact gm hs a e m (k+1)
   | some h =>
     simp only
     split<;>exact gm hs a e m (k+1)
theorem f7 (V:List (List UInt8)) (hs:List mJ) (a e:Int):∀ (m k:Nat),od V hs m k (.bad a e)=.bad a e
 | 0,_=>rfl
 | m+1,k=>rfl
theorem Cf (l:List eZ) (a e:Int):CW l (.bad a e)=.bad a e:=by
 unfold CW
 cases l[6]? <;> rfl
theorem pf (l:List eZ) (a e:Int):wV l (.bad a e)=.bad a e:=by
 unfold wV
 cases (lj l)[0]? <;> rfl
theorem fu (n:mJ) (hs:List mJ) (l:List eZ) (a e:Int):ji n hs l (.bad a e)=.bad a e:=by
 unfold ji
 rw[Cf,pf,gm,f7]
theorem pJ (a e:Int):(dP (.bad a e)).2=.bad a e:=rfl
theorem kT {α:Type} (step:LS->α × LS) (a e:Int):(fI step (.bad a e)).2=.bad a e:=by
 unfold fI
 simp only[aG,dI]
theorem xG (a e:Int):(ma (.bad a e)).2=.bad a e:=by
 unfold ma
 simp only[pJ,kT]
theorem gA (a e:Int):(dm (.bad a e)).1=.bad a e:=by
 unfold dm
 rw[xG,dI]
theorem tM (a e:Int):zI (.bad a e)=.bad a e:=by
 unfold zI
 rw[pJ,kT]
 show ki (ji _ _ (dm (.bad a e)).2 (aG 0 [] (dm (.bad a e)).1).2) _=_
 rw[gA]
 show ki (ji _ _ _ (.bad a e)) _=_
 rw[fu]
 rfl
theorem pp:∀ (l:List eZ),(match fH l with
 | some x=>(lj l)[0]? = some x.1/\x.2=91
 | none=>(lj l)[0]? = none)
 | []=>rfl
 | a::r=>by
   have h:=pp r
   unfold fH lj
   rw[List.filterMap_cons]
   cases h5:a.2[5]? with
   | some t=>simp
   | none=>simpa [lj] using h
theorem tP (hs:List mJ) (c:List ak):∀ (m k:Nat),k+m=hs.length ->
 uD hs m k (.ok c)=match hs[(gw ((hs.map (·.1)).take k) ((hs.map (·.1)).drop k) k).toNat]?,decide (0<=gw ((hs.map (·.1)).take k) ((hs.map (·.1)).drop k) k) with
  | some h,true=>.bad h.2 92
  | _,_=>.ok c
 | 0,k,hk=>by
   have:(hs.map (·.1)).drop k=[]:=List.drop_of_length_le (by simp;omega)
   rw[this]
   simp [gw,uD]
 | m+1,k,hk=>by
   obtain⟨h,hh⟩:∃ h,hs[k]? = some h:=⟨hs[k]'(by omega),FD (by omega)⟩
   have hx:(hs.map (·.1))[k]? = some h.1:=by simp [hh]
   unfold uD
   rw[hh]
   simp only
   by_cases hm:h.1∈(hs.map (·.1)).take k
   ·rw[wD hx hm]
    have hi:iE (hs.map (·.1)) h.1<(k:Int):=by
     unfold iE
     rw[if_pos (List.mem_of_mem_take hm)]
     have e:(hs.map (·.1)).idxOf h.1=((hs.map (·.1)).take k).idxOf h.1:=by
      conv=>lhs;rw[<-List.take_append_drop k (hs.map (·.1))]
      rw[List.idxOf_append,if_pos hm]
     rw[e]
     have:=List.idxOf_lt_length_of_mem hm
     rw[List.length_take] at this
     omega
    rw[if_pos hi,Int.toNat_natCast,hh]
    simp only[jl,gm]
    simp
   ·rw[rQ hx hm,<-tP hs c m (k+1) (by omega)]
    rw[if_neg]
    rw[nC hx hm]
    omega
theorem ww {V:List (List UInt8)} {l:List (List UInt8)} (h:∀ s∈l,s∈V):cj V l = -1:=by
 unfold cj
 refine iR ?_
 intro y hy
 obtain⟨s,hs,rfl⟩:=List.mem_map.1 hy
 simpa [bO] using h s hs
theorem yL {V:List (List UInt8)} {l:List (List UInt8)} {k:Nat} {s:List UInt8} (hk:l[k]? = some s) (hs:s ∉ V) (h:∀ s∈l.take k,s∈V):cj V l=k:=by
 unfold cj
 refine kq (x:=bO s) (by simp [hk]) (by simpa [bO] using hs) ?_
 intro y hy
 rw[<-List.map_take] at hy
 obtain⟨s,hs,rfl⟩:=List.mem_map.1 hy
 simpa [bO] using h s hs
theorem pB (V:List (List UInt8)) (hs:List mJ) (c:List ak):∀ (m k:Nat),k+m=hs.length->(∀ s∈(hs.map (·.1)).take k,s∈V) ->
 od V hs m k (.ok c)=match hs[(cj V (hs.map (·.1))).toNat]?,decide (0<=cj V (hs.map (·.1))) with
  | some h,true=>.bad h.2 93
  | _,_=>.ok c
 | 0,k,hk,hp=>by
   rw[ww (fun s hs'=>hp s (by rw[List.take_of_length_le (by simp;omega)];exact hs'))]
   simp [od]
 | m+1,k,hk,hp=>by
   obtain⟨h,hh⟩:∃ h,hs[k]? = some h:=⟨hs[k]'(by omega),FD (by omega)⟩
   have hx:(hs.map (·.1))[k]? = some h.1:=by simp [hh]
   unfold od
   rw[hh]
   simp only
   by_cases hm:h.1∈V
   ·rw[if_pos hm]
    refine pB V hs c m (k+1) (by omega) ?_
    intro s hs'
    rw[List.take_add_one,hx] at hs'
    rcases List.mem_append.1 hs' with h1 | h1
    ·exact hp s h1
    ·simp at h1
     rw[h1]
     exact hm
   ·rw[if_neg hm,f7,yL hx hm hp,Int.toNat_natCast,hh]
    simp
theorem Dx (n:mJ) (hs:List mJ) (l:List eZ) (c:List ak):ki (ji n hs l (.ok c)) (cJ n hs l)=tH n hs l:=by
 unfold ji tH nF CW
 cases h6:l[6]? with
 | some a =>
   simp only[jl]
   rw[pf,gm,f7]
   rfl
 | none =>
   simp only
   have hg:=pp l
   unfold wV
   cases hl:fH l with
   | some x =>
     rw[hl] at hg
     obtain⟨h1,h2⟩:=hg
     rw[h1]
     simp only[jl]
     rw[gm,f7,h2]
     rfl
   | none =>
     rw[hl] at hg
     simp only at hg
     rw[hg]
     simp only
     have hd:=tP hs c hs.length 0 (by omega)
     rw[hd]
     simp only[List.take_zero,List.drop_zero]
     have hk:=pB (cg (cJ n hs l).atoms) hs c hs.length 0 (by omega) (by simp)
     show ki (od _ hs hs.length 0 (match hs[(fA (hs.map (·.1))).toNat]?,decide (0<=fA (hs.map (·.1))) with
      | some h,true=>.bad h.2 92
      | _,_=>.ok c)) _=_
     generalize hs[(fA (hs.map (·.1))).toNat]? = A
     generalize decide (0<=fA (hs.map (·.1)))=B
     generalize hs[(cj (cg (cJ n hs l).atoms) (hs.map (·.1))).toNat]? = C at hk ⊢
     generalize decide (0<=cj (cg (cJ n hs l).atoms) (hs.map (·.1)))=D at hk ⊢
     rcases A with _ | h
     ·simp only
      rw[hk]
      rcases C with _ | h2<;>rcases D with _ | _<;>rfl
     ·rcases B with _ | _
      ·simp only
       rw[hk]
       rcases C with _ | h2<;>rcases D with _ | _<;>rfl
      ·simp only
       rw[f7]
       rfl
theorem qP {ts:List ak} (h:bD ts):zI (.ok ts)=fm ts:=by
 have h1:=nc ts h
 unfold zI fm
 cases ho:aY ts with
 | bad a e =>
   rw[ho] at h1
   simp only at h1 ⊢
   rw[h1,kT]
   show ki (ji _ _ (dm (.bad a e)).2 (aG 0 [] (dm (.bad a e)).1).2) _=_
   rw[gA]
   show ki (ji _ _ _ (.bad a e)) _=_
   rw[fu]
   rfl
 | ok n c1 =>
   rw[ho] at h1
   obtain⟨h1,he1⟩:=h1
   simp only[h1]
   have h2:=nh nc dH c1 he1
   cases h3:aJ aY c1 with
   | bad a e =>
     rw[h3] at h2
     simp only at h2 ⊢
     rw[h2]
     show ki (ji _ _ (dm (.bad a e)).2 (aG 0 [] (dm (.bad a e)).1).2) _=_
     rw[gA]
     show ki (ji _ _ _ (.bad a e)) _=_
     rw[fu]
     rfl
   | ok hs c2 =>
     rw[h3] at h2
     obtain⟨h2,he2⟩:=h2
     simp only[h2]
     have h4:=n7 (k:=3) (m:=[58,45]) he2 (by decide) (by decide)
     cases h5:tk 3 [[58,45]] c2 with
     | bad a e =>
       rw[h5] at h4
       simp only at h4 ⊢
       rw[h4]
       show ki (ji _ _ (dm (.bad a e)).2 (aG 0 [] (dm (.bad a e)).1).2) _=_
       rw[gA]
       show ki (ji _ _ _ (.bad a e)) _=_
       rw[fu]
       rfl
     | ok u c3 =>
       rw[h5] at h4
       obtain⟨h4,he3⟩:=h4
       simp only[h4]
       have h6:=sn c3 he3
       cases h7:bS c3 with
       | bad a e =>
         rw[h7] at h6
         simp only at h6
         rw[er h7]
         simp only
         unfold dm
         rw[h6]
         simp only[dI]
         show ki (ji _ _ _ (.bad a e)) _=_
         rw[fu]
         rfl
       | ok x c4 =>
         rw[h7] at h6
         obtain⟨h6,he4⟩:=h6
         rw[ek h7]
         unfold dm
         simp only[h6]
         have h8:=nw sn eS (li (.ok c4)) c4 [x] (by simp) he4 (by simp [li])
         cases h9:bz bS [x] c4 with
         | bad a e =>
           rw[h9] at h8
           simp only at h8 ⊢
           rw[h8]
           show ki (ji _ _ _ (.bad a e)) _=_
           rw[fu]
           rfl
         | ok l c5 =>
           rw[h9] at h8
           obtain⟨h8,he5⟩:=h8
           simp only[h8]
           obtain⟨t,r,rfl⟩:=he5.some
           by_cases ht:t.k=0
           ·have e1:tk 0 [] (t::r)=.ok t (t::r):=by simp [tk,ht]
            have e2:(aG 0 [] (.ok (t::r))).2=.ok r:=by simp [aG,cF,ce,ht]
            rw[e1,e2]
            exact Dx n hs l r
           ·have e1:tk 0 [] (t::r)=.bad t.p 80:=by simp [tk,ht]
            have e2:(aG 0 [] (.ok (t::r))).2=.bad t.p 80:=by simp [aG,cF,ce,ht]
            rw[e1,e2,fu]
            rfl
def oy (B:Nat) (w:World) (v:Value) (l:List Int):Prop:=w.ownsRow B 3 1 v l.length (l.map fun p=>.int .i64 p)
section
variable {B : Nat} {w w' : World} {v1 v2 v3 : Value} {l1 l2 l3 : List Int}
theorem oy.get (h:oy B w v1 l1) {i:Nat} {p:Int} (hi:l1[i]? = some p):∃ g cap,v1=.slice (some ⟨g,0,none⟩) l1.length cap/\l1.length<=cap/\cap<=maxLen/\g<w.heap.size/\w.cell? ⟨g,i,none⟩=some (.int .i64 p):=by
 have hl:=(FE hi).1
 rcases h.2 with ⟨_,h0⟩ | ⟨g,cap,cur,rfl,_,hg,hnc,hcm,_⟩
 ·omega
 ·have hc:=World.ownsRow.cellAt (show w.ownsRow B 3 1 (.slice (some ⟨g,0,none⟩) l1.length cap) l1.length (l1.map fun p=>.int .i64 p) from h) i (by omega)
  exact⟨g,cap,rfl,hnc,hcm,(Array.getElem?_eq_some_iff.1 hg).1,hc.trans (by simp [hi])⟩
end
theorem Tryz.infoInt:(prog.info? 3).map (fun i=>(i.zero,i.size,i.bytes))=some (some (.int .i64 0),1,8):=by kernel_rfl
variable {P : Program}
theorem aj.flat {w:World} {b off n cap sz:Nat} {xs:List (List Value)} (hx:aj w (.slice (some ⟨b,off,none⟩) n cap) sz xs) (hl:∀ x∈xs,x.length=sz) :
 ∀ j v,xs.flatten[j]? = some v->w.cell? ((⟨b,off,none⟩:Addr).add j)=some v:=by
 have hfl:=bP hl
 intro j v hj
 have hadd:(⟨b,off,none⟩:Addr).add j=⟨b,off+j,none⟩:=by unfold Addr.add;split<;>simp_all
 rw[hadd]
 have hjl:=(FE hj).1
 rw[hfl] at hjl
 have hszp:0<sz:=by
  rcases Nat.eq_zero_or_pos sz with e | e
  ·subst e;simp at hjl
  ·exact e
 have hq:j / sz<xs.length:=Nat.div_lt_of_lt_mul (by rw[Nat.mul_comm];exact hjl)
 have hr:j % sz<sz:=Nat.mod_lt _ hszp
 obtain⟨x,hxj⟩:∃ x,xs[j / sz]? = some x:=⟨xs[j / sz]'(by omega),FD (by omega)⟩
 have hxl:=hl x (FC hxj)
 obtain⟨u,hu'⟩:∃ u,x[j % sz]? = some u:=⟨x[j % sz]'(by omega),FD (by omega)⟩
 have hfa:=ef hl hxj hu'
 have hjj:j / sz * sz+j % sz=j:=by rw[Nat.mul_comm];exact Nat.div_add_mod j sz
 rw[hjj,hj] at hfa
 obtain⟨b',off',cap3,hv3,_,_,_,hcell⟩:=hx.get hxj
 simp only[Value.slice.injEq,Option.some.injEq,Addr.mk.injEq,and_true] at hv3
 obtain⟨⟨rfl,rfl⟩,_,rfl⟩:=hv3
 have:=hcell (j % sz) u hu'
 rw[Nat.add_assoc,hjj] at this
 rw[this,hfa]
theorem mv {w:World} (base:Nat) (t ty e:TypeId) (i:TypeInfo) (size:Nat) (ht:P.underlying t=some (.slice e)) (hi:P.info? e=some i)
 (v:Value) (n:Nat) (xs:List Value) (hown:w.ownsRow base e size v n xs) (ad:Option Addr) (c:Nat) :
 (Builtin.append_ #[t,t] ty #[v,.slice ad 0 c]).run P w=.ok v w:=by
 cases ad with
 | none =>
   rcases hown.2 with ⟨rfl,rfl⟩ | ⟨g,cap,cur,rfl,_,_,hnc,_⟩ <;>
    simp [Builtin.append_,run_underlying ht,sizeOf,typeInfo,Builtin.lenOf,Builtin.firstCells,storeCells, *]
 | some ad =>
   have hl:∀ (x:Addr),(loadCells x 0).run P w=.ok #[] w:=fun x=>by simpa using run_loadCells_list (P:=P) w x [] (by simp)
   rcases hown.2 with ⟨rfl,rfl⟩ | ⟨g,cap,cur,rfl,_,_,hnc,_⟩ <;>
    simp [Builtin.append_,run_underlying ht,sizeOf,typeInfo,Builtin.lenOf,Builtin.firstCells,storeCells, *]
theorem jk {w:World} {o:Oper} {a:Act} {K:Act->World->Prop} {Q:Exit->Act->World->Prop} (s x:Operand) (t:TypeId)
 (ho:o.op=.call { callee:=.builtin .append,args:=#[s,x],argTypes:=#[t,t] })
 (base:Nat) (e:TypeId) (i:TypeInfo) (z:Value) (size bytes:Nat) (ht:P.underlying t=some (.slice e)) (hi:P.info? e=some i) (hz:i.zero=some z)
 (hsize:i.size=size) (hby:i.bytes=bytes) (hzs:z.cells.size=size) (hsz:0<size)
 (v:Value) (n:Nat) (cur:List Value) (hs:a.eval s=v) (hown:w.ownsRow base e size v n cur)
 (xv:Value) (hx:a.eval x=xv) (xs:List (List Value)) (hrow:aj w xv size xs) (hl:∀ x∈xs,x.length=size) (h1:∀ x∈xs,∀ u∈x,u.oneCell'=true)
 (h63:n+xs.length<=maxLen) (hbytes:(n+xs.length) * bytes<=140737488355328) (hbase:base<=w.heap.size)
 (h:∀ v' w',w'.ownsRow base e size v' (n+xs.length) (cur++xs.flatten)->w.grownBy w' v.ownBlock->K (a.put o.dst v') w'):o.wp P a w K Q:=by
 by_cases h0:xs=[]
 ·subst h0
  obtain⟨ad,cap,rfl,_,_⟩:=hrow.form
  have hr:=mv (P:=P) base t o.type e i size ht hi v n cur hown ad cap
  unfold Oper.wp execOp
  simp only[ho,resolve,invoke,builtin,Sem.run_bind,Sem.run_pure,Result.andThen_ok,List.map_toArray,List.map_cons,List.map_nil,hs,hx,List.length_nil,hr]
  exact h v w (by simpa using hown) ⟨rfl,rfl,rfl,FA,fun _ _ _=>rfl⟩
 ·obtain⟨x0,hx0⟩:∃ x0,xs[0]? = some x0:=⟨xs[0]'(by have:=List.length_pos_iff.2 h0;omega),FD (by have:=List.length_pos_iff.2 h0;omega)⟩
  obtain⟨b,off,cap,rfl,_,_,_,_⟩:=hrow.get hx0
  refine wp_append_lies w s x t ho base e i z size bytes ht hi hz hsize hby hzs hsz v n cur hs hown ⟨b,off,none⟩ xs.length cap xs.flatten hx (bP hl) (hrow.flat hl) (by
   intro u hu
   obtain⟨x,hxm,hvx⟩:=List.mem_flatten.1 hu
   exact h1 x hxm u hvx) (List.length_pos_iff.2 h0) h63 hbytes hbase _ rfl ?_
  intro g cap' w' h2 h3 _ _
  exact h _ w' h2 h3
theorem mu {w:World} {ops:Array Oper} {o:Oper} {a:Act} {K:Act->World->Prop} {Q:Exit->Act->World->Prop} {E:Prop} (hgd:o.guard=none) (s x:Operand) (t:TypeId)
 (ho:o.op=.call { callee:=.builtin .append,args:=#[s,x],argTypes:=#[t,t] })
 (base:Nat) (e:TypeId) (i:TypeInfo) (z:Value) (size bytes:Nat) (ht:P.underlying t=some (.slice e)) (hi:P.info? e=some i) (hz:i.zero=some z)
 (hsize:i.size=size) (hby:i.bytes=bytes) (hzs:z.cells.size=size) (hsz:0<size)
 (v:Value) (n:Nat) (cur:List Value) (hs:a.eval s=v) (hown:w.ownsRow base e size v n cur)
 (xv:Value) (hx:a.eval x=xv) (xs:List (List Value)) (hrow:aj w xv size xs) (hl:∀ x∈xs,x.length=size) (h1:∀ x∈xs,∀ u∈x,u.oneCell'=true)
 (h63:n+xs.length<=maxLen) (hbytes:(n+xs.length) * bytes<=140737488355328) (hbase:base<=w.heap.size)
 (h:∀ v' w',w'.ownsRow base e size v' (n+xs.length) (cur++xs.flatten)->w.grownBy w' v.ownBlock->K (a.put o.dst v') w') :
 if Region.wanted o (yielded ops a.tmps)=true then Oper.wp P o a w K Q else E:=by
 have hw:Region.wanted o (yielded ops a.tmps)=true:=by simp [Region.wanted,hgd]
 rw[if_pos hw]
 exact jk s x t ho base e i z size bytes ht hi hz hsize hby hzs hsz v n cur hs hown xv hx xs hrow hl h1 h63 hbytes hbase h
theorem rh {a b:List (List UInt8)} (hl:a.length=b.length) (h:∀ k,k<a.length->a[k]? = b[k]?):a=b:=by
 apply List.ext_getElem?
 intro k
 rcases Nat.lt_or_ge k a.length with h1 | h1
 ·exact h k h1
 ·rw[List.getElem?_eq_none h1,List.getElem?_eq_none (by omega)]
theorem oL (w:World) (va vb:Value) (a b:List (List UInt8)) (ha:aI w va a) (hb:aI w vb b) :
 Calls prog 38 #[va,vb] w fun e w'=>e=.returned (.bool (decide (a=b)))/\Below w.heap.size w w':=by
 obtain⟨aa,ac,rfl,hac,ham⟩:=ha.form
 obtain⟨ba,bc,rfl,hbc,hbm⟩:=hb.form
 have hla:=ha.len
 have hlb:=hb.len
 unfold maxLen at ham hbm
 have HA:=Fx ha
 have HB:=Fx hb
 clear ha hb
 by_cases hl:a.length=b.length
 ·generalize hna:a.length=n at *
  generalize hnb:b.length=m at *
  subst hl
  have HL:=Fx hna
  have HN:=Fx hnb
  clear hna hnb
  go_enter func38,ntmps38
  go_wp2_with fail
  go_loopw [5] (fun i wr=>∃ k:Nat,k<=n/\i=.int .i64 k/\Hid (Below w.heap.size w wr)/\Hid (∀ j,j<k->a[j]? = b[j]?)) (fun i _=>n - (intOf i).toNat)
  case atStart=>exact⟨0,Fz,rfl,Fx Fy,Fx (by simp)⟩
  case round =>
   obtain⟨k,hk,rfl,BW,HP⟩:=hrel
   by_cases hlt:k<n
   ·obtain⟨x,hx⟩:∃ x,a[k]? = some x:=⟨a[k]'(by rw[HL.out];exact hlt),FD (by rw[HL.out];exact hlt)⟩
    obtain⟨y,hy⟩:∃ y,b[k]? = some y:=⟨b[k]'(by rw[HN.out];exact hlt),FD (by rw[HN.out];exact hlt)⟩
    obtain⟨b1,o1,c1,hv1,_,_,hbl1,k1⟩:=(HA.out.keep BW.out).get hx
    obtain⟨b2,o2,c2,hv2,_,_,hbl2,k2⟩:=(HB.out.keep BW.out).get hy
    rw[HL.out] at hv1
    rw[HN.out] at hv2
    simp only[Value.slice.injEq,true_and] at hv1 hv2
    obtain⟨rfl,rfl⟩:=hv1
    obtain⟨rfl,rfl⟩:=hv2
    have hd:decide ((k:Int)<0)=false:=by simp
    have hd2:decide ((n:Int)<=(k:Int))=false:=by simp;omega
    have HX:=Fx hx
    have HY:=Fx hy
    clear hx hy
    by_cases hq:x=y
    ·subst hq
     go_wp2_with fail
     go_quiet (fail)
     go_wp2_with fail
     go_roundw
     case rel =>
      refine⟨k+1,by omega,by go_num,Fx (dC BW.out _),Fx fun j hj=>?_⟩
      rcases Nat.lt_or_ge j k with h | h
      ·exact HP.out j h
      ·obtain rfl:j=k:=by omega
       rw[HX.out,HY.out]
     case measure=>simp [intOf];omega
    ·have hq2:¬ ((⟨x.toArray⟩:ByteArray)=⟨y.toArray⟩):=fun e=>hq (gi.1 e)
     have hq3:(x == y)=false:=by simpa using hq
     have hne:a≠b:=fun e=>hq (by have:=HX.out;rw[e,HY.out] at this;exact (Option.some.inj this).symm)
     have HNE:=Fx hne
     clear hq hne
     go_wp2_with fail
     go_quiet (fail)
     go_wp2_with fail
     go_ret
     exact⟨by rw[decide_eq_false HNE.out];rfl,dC BW.out _⟩
   ·obtain rfl:k=n:=by omega
    have heq:a=b:=rh (by rw[HL.out,HN.out]) (fun j hj=>HP.out j (by rw[HL.out] at hj;exact hj))
    have HEQ:=Fx heq
    clear heq
    go_wp2_with fail
    go_ret
    exact⟨by rw[decide_eq_true HEQ.out];rfl,BW.out⟩
 ·have hne:a≠b:=fun e=>hl (by rw[e])
  rw[decide_eq_false hne]
  have hq:((a.length:Int) == (b.length:Int))=false:=by rw[beq_eq_false_iff_ne];omega
  have hq2:((a.length:Int) != (b.length:Int))=true:=by simp [bne,hq]
  clear hne
  go_enter func38,ntmps38
  go_wp2_with fail
  go_ret
  exact⟨rfl,Below.refl _ _⟩
theorem Dv (ts:List dd):∀ x∈ts.map dd.cells,∀ u∈x,u.oneCell'=true:=by
 intro x hx u hu
 simp at hx
 obtain⟨t,_,rfl⟩:=hx
 simp only[dd.cells,List.mem_cons,List.not_mem_nil,or_false] at hu
 rcases hu with rfl | rfl | rfl | rfl<;>rfl
def q4 (n:mJ) (hs:List mJ) (al:List eZ) (X:ak × LS):PR cf:=ki (ji n hs al X.2) (cJ n hs al)
def q3 (n:mJ) (hs:List mJ) (G:LS × List eZ):PR cf:=q4 n hs G.2 (aG 0 [] G.1)
def Fr (n:mJ) (hs:List mJ) (X:ak × LS):PR cf:=q3 n hs (dm X.2)
def Fv (n:mJ) (hs:List mJ) (X:ak × LS):PR cf:=Fr n hs (aG 3 [58,45] X.2)
def Fu (n:mJ) (G:LS × List mJ):PR cf:=Fv n G.2 (aG 3 [41] G.1)
def Fw (n:mJ) (X:ak × LS):PR cf:=Fu n (dJ dP (li X.2+1) X.2 [])
def q1 (X:ak × LS):PR cf:=Fw (X.1.x,X.1.p) (aG 3 [40] X.2)
theorem mF (w:World) (p:Addr) (u:Value) (t:TypeId) (cs:Array Value):af ((w.setCell p u).alloc (.cells cs t)) w.heap.size t cs:=by
 have:=af.new (w.setCell p u) t cs
 simpa using this
def lo (xs:List (dd × Int)):List Int:=(xs[5]?.map (·.2)).toList
