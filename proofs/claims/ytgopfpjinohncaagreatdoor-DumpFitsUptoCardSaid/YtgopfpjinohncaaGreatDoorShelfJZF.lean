/- DERIVED: -/
import Derived.Test.YtgopfpjinohncaaGreatDoorGcF
import Derived.Test.YtgopfpjinohncaaGreatDoorSkgZF
import Derived.Shelf.Strings.OnBuilder
import Derived.WideMake
set_option maxHeartbeats 8000000
set_option maxRecDepth 100000
set_option linter.unusedVariables false
/-
 DERIVED: THE SHELF's CONTRACTS AT THIS DUMP,IN PLAIN WORDS (tools/lay-plain.mjs out of 'TryzShelfCutJ.lean',which tools/lay-shelf.mjs wrote): THE SAME DECLARATIONS UNDER THE SAME NAMES: 'import','namespace','open','def','theorem' AND NOTHING ELSE: no command of the shelf's: FOR A HAND-IN. Each laying: the table of numbers ('.._ren') and one theorem,a field a fact of the dump's own or the kernel's comparison;each contract: ONE APPLICATION.
-/
namespace Go.Proofs
open Go.Shelf
def Tryz.lays156_ren:Go.Shelf.Ren:=⟨fun | 156=>149 | 165=>204 | 166=>91 | 169=>89 | 240=>172 | 241=>252 | 276=>217 | 277=>284 | n=>n,fun | 31=>28 | 9=>9 | 3=>3 | 4=>4 | 0=>0 | 20=>20 | 72=>156 | 76=>161 | 70=>153 | 37=>154 | 75=>160 | 127=>259 | 164=>298 | 5=>5 | 80=>158 | n=>n,fun | n=>n⟩
theorem Tryz.lays156:Go.Proofs.Lays.n156 prog Tryz.lays156_ren := {
 mixed:=by kernel_rfl
 f156:=func149.trans (congrArg some (by kernel_rfl))
 f165:=func204.trans (congrArg some (by kernel_rfl))
 f166:=func91.trans (congrArg some (by kernel_rfl))
 f169:=func89.trans (congrArg some (by kernel_rfl))
 f240:=func172.trans (congrArg some (by kernel_rfl))
 f241:=func252.trans (congrArg some (by kernel_rfl))
 f276:=func217.trans (congrArg some (by kernel_rfl))
 f277:=func284.trans (congrArg some (by kernel_rfl))
 t0:=underlying0
 a0:=isAgg0
 z0:=sizeOf0
 v0:=zeroValue0
 t3:=underlying3
 a3:=isAgg3
 z3:=sizeOf3
 v3:=zeroValue3
 t4:=underlying4
 a4:=isAgg4
 z4:=sizeOf4
 v4:=zeroValue4
 t9:=underlying9
 a9:=isAgg9
 z9:=sizeOf9
 v9:=zeroValue9
 t20:=underlying20
 a20:=isAgg20
 z20:=sizeOf20
 v20:=zeroValue20
 t31:=underlying28
 a31:=isAgg28
 z31:=sizeOf28
 v31:=zeroValue28
 t37:=underlying154
 a37:=isAgg154
 z37:=sizeOf154
 v37:=zeroValue154
 t70:=underlying153
 a70:=isAgg153
 z70:=sizeOf153
 v70:=zeroValue153
 t72:=underlying156
 a72:=isAgg156
 z72:=sizeOf156
 v72:=zeroValue156
 t75:=underlying160
 a75:=isAgg160
 z75:=sizeOf160
 v75:=zeroValue160
 t76:=underlying161
 a76:=isAgg161
 z76:=sizeOf161
 v76:=zeroValue161
 t127:=underlying259
 a127:=isAgg259
 z127:=sizeOf259
 v127:=zeroValue259
 t164:=underlying298
 a164:=isAgg298
 z164:=sizeOf298
 v164:=zeroValue298 }
theorem Tryz.Builder_Extra_156:Builder.Extra prog Tryz.lays156_ren := {
 sizeBuilder:=by kernel_rfl
 liesBuilder:=by kernel_rfl
 t5:=underlying5
 a5:=isAgg5
 z5:=sizeOf5
 v5:=zeroValue5
 infoByte:=by kernel_rfl
 cellsByte:=by kernel_rfl
 sizeByte:=by kernel_rfl
 neB5:=by decide }
open Go.RowKit in
theorem Tryz.strings_Join_none (a:Option Addr) (c:Nat) (sep:ByteArray) (w:World) :
 Calls prog 149 #[.slice a 0 c,.string sep] w fun e w'=>e=.returned (.string ⟨#[]⟩)/\w'=w:=Any.strings_Join_none Tryz.lays156 Tryz.Builder_Extra_156 a c sep w
open Go.RowKit in
theorem Tryz.strings_Join (bk o c:Nat) (xs:List ByteArray) (sep:ByteArray) (w:World) (hcells:∀ (j:Nat) x,xs[j]? = some x->w.cell? ⟨bk,o+j,none⟩=some (.string x)) (hbk:bk<w.heap.size) (hN:xs.length<=140737488355328) (hcap:xs.length<=c) (hlen:(Lib.join (xs.map (·.data.toList)) sep.data.toList).length<=140737488355328) :
 Calls prog 149 #[.slice (some ⟨bk,o,none⟩) xs.length c,.string sep] w fun e w'=>e=.returned (.string ⟨(Lib.join (xs.map (·.data.toList)) sep.data.toList).toArray⟩)/\Below w.heap.size w w':=Any.strings_Join Tryz.lays156 Tryz.Builder_Extra_156 bk o c xs sep w hcells hbk hN hcap hlen
end Go.Proofs
namespace Go.Proofs.YtgopfpjinohncaaGreatDoor
open Go.Proofs.Tryz
open Go.RowKit
theorem uz (g:Nat) (lb:Array Value) (eg:∀ args w,(callFunc g args).run prog w=.ok (.enter g args) w) (p:Nat->Bool) (w:World) (v:Value) (xs:List (List Value)) (h:aj w v 1 xs) (hl:∀ x∈xs,x.length=1)
 (hf:∀ (W:World) (k:Nat) (x:List Value),Below w.heap.size w W->xs[k]? = some x->Calls prog g (#[x[0]!]++lb) W fun e W'=>e=.returned (.bool (p k))/\Below W.heap.size W W') :
 Calls prog 202 #[v,.func (.func g) #[] lb] w fun e w'=>(∃ q:Int,e=.returned (.int .i64 q)/\decide (0<=q)=(List.range xs.length).any p)/\Below w.heap.size w w':=by
 obtain⟨ad,cap,rfl,hnc,hcm⟩:=h.form
 have hln:=h.len
 have HR:=Fx h
 have HL:=Fx hl
 have HF:=Fx hf
 unfold maxLen at hcm
 generalize hn:xs.length=n at *
 have HN:=Fx hn
 clear h hl hf hn
 go_enter func202,ntmps202
 go_wp2_with fail
 go_loopw [5,8] (fun _ i wr=>∃ k:Nat,k<=n/\i=.int .i64 k/\Hid (Below w.heap.size w wr)/\Hid (∀ j,j<k->p j=false)) (fun _ i _=>n - (intOf i).toNat)
 case atStart=>exact⟨0,Fz,rfl,Fx Fy,Fx (fun j hj=>by omega)⟩
 case round =>
  obtain⟨k,hk,rfl,HB,HP⟩:=hrel
  by_cases hlt:k<n
  ·obtain⟨x,hx⟩:∃ x,xs[k]? = some x:=⟨xs[k]'(by rw[HN.out];exact hlt),FD (by rw[HN.out];exact hlt)⟩
   have hm:x∈xs:=FC hx
   obtain⟨b,off,cap',hv,_,_,hbl,hce⟩:=(HR.out.keep HB.out).get hx
   rw[HN.out] at hv
   simp only[Value.slice.injEq,true_and] at hv
   obtain⟨rfl,rfl⟩:=hv
   obtain⟨e0,rfl⟩:=EC (HL.out x hm)
   have q0:=hce 0 e0 rfl
   simp only[Nat.mul_one,Nat.add_zero] at q0
   have hcall:=HF.out wr k _ HB.out hx
   clear hce hm hx
   cases hq:p k with
   | true =>
     rw[hq] at hcall
     have HC:=Fx hcall
     have HQ:=Fx hq
     clear hcall hq
     go_wp2_with fail
     refine HC.out.mono ?_
     rintro e w' ⟨rfl,hb'⟩
     have HB':=Fx hb'
     clear hb'
     go_wp2_with fail
     go_ret
     refine⟨⟨k,rfl,?_⟩,HB.out.trans (HB'.out.mono HB.out.size)⟩
     rw[decide_eq_true (Int.natCast_nonneg k)]
     exact (List.any_eq_true.2 ⟨k,List.mem_range.2 hlt,HQ.out⟩).symm
   | false =>
     rw[hq] at hcall
     have HC:=Fx hcall
     have HQ:=Fx hq
     clear hcall hq
     go_wp2_with fail
     refine HC.out.mono ?_
     rintro e w' ⟨rfl,hb'⟩
     have HB':=Fx hb'
     clear hb'
     go_wp2_with fail
     go_roundw
     case rel =>
      refine⟨k+1,by omega,by go_num,Fx (HB.out.trans (HB'.out.mono HB.out.size)),Fx (fun j hj=>?_)⟩
      rcases Nat.lt_or_ge j k with h1 | h1
      ·exact HP.out j h1
      ·obtain rfl:j=k:=by omega
       exact HQ.out
     case measure=>simp [intOf];omega
  ·obtain rfl:k=n:=by omega
   go_wp2_with fail
   go_ret
   refine⟨⟨-1,rfl,?_⟩,HB.out⟩
   rw[show decide ((0:Int) <= -1)=false from by decide]
   refine (List.any_eq_false.2 fun j hj=>?_).symm
   rw[HP.out j (List.mem_range.1 hj)]
   decide
theorem oH (g:Nat) (lb:Array Value) (eg:∀ args w,(callFunc g args).run prog w=.ok (.enter g args) w) (p:Nat->Bool) (w:World) (v:Value) (xs:List (List Value)) (h:aj w v 1 xs) (hl:∀ x∈xs,x.length=1)
 (hf:∀ (W:World) (k:Nat) (x:List Value),Below w.heap.size w W->xs[k]? = some x->Calls prog g (#[x[0]!]++lb) W fun e W'=>e=.returned (.bool (p k))/\Below W.heap.size W W') :
 Calls prog 214 #[v,.func (.func g) #[] lb] w fun e w'=>e=.returned (.bool ((List.range xs.length).any p))/\Below w.heap.size w w':=by
 have HI:=Fx (uz g lb eg p w v xs h hl hf)
 clear h hl hf
 generalize (List.range xs.length).any p=R at *
 go_enter func214,ntmps214
 go_wp2_with fail
 refine HI.out.mono ?_
 rintro e w' ⟨⟨q,rfl,hq⟩,hb'⟩
 have HB':=Fx hb'
 clear hb'
 go_wp2_with fail
 go_ret
 exact⟨by first | rfl | simp,HB'.out⟩
theorem uW (g:Nat) (lb:Array Value) (eg:∀ args w,(callFunc g args).run prog w=.ok (.enter g args) w) (p:Nat->Bool) (w:World) (v:Value) (xs:List (List Value)) (h:aj w v 2 xs) (hl:∀ x∈xs,x.length=2)
 (hf:∀ (W:World) (k:Nat) (x:List Value),Below w.heap.size w W->xs[k]? = some x->Calls prog g (#[.agg x.toArray]++lb) W fun e W'=>e=.returned (.bool (p k))/\Below W.heap.size W W') :
 Calls prog 213 #[v,.func (.func g) #[] lb] w fun e w'=>(∃ q:Int,e=.returned (.int .i64 q)/\decide (0<=q)=(List.range xs.length).any p)/\Below w.heap.size w w':=by
 obtain⟨ad,cap,rfl,hnc,hcm⟩:=h.form
 have hln:=h.len
 have HR:=Fx h
 have HL:=Fx hl
 have HF:=Fx hf
 unfold maxLen at hcm
 generalize hn:xs.length=n at *
 have HN:=Fx hn
 clear h hl hf hn
 go_enter func213,ntmps213
 go_wp2_with fail
 go_loopw [5,8] (fun _ i wr=>∃ k:Nat,k<=n/\i=.int .i64 k/\Hid (Below w.heap.size w wr)/\Hid (∀ j,j<k->p j=false)) (fun _ i _=>n - (intOf i).toNat)
 case atStart=>exact⟨0,Fz,rfl,Fx Fy,Fx (fun j hj=>by omega)⟩
 case round =>
  obtain⟨k,hk,rfl,HB,HP⟩:=hrel
  by_cases hlt:k<n
  ·obtain⟨x,hx⟩:∃ x,xs[k]? = some x:=⟨xs[k]'(by rw[HN.out];exact hlt),FD (by rw[HN.out];exact hlt)⟩
   have hm:x∈xs:=FC hx
   obtain⟨b,off,cap',hv,_,_,hbl,hce⟩:=(HR.out.keep HB.out).get hx
   rw[HN.out] at hv
   simp only[Value.slice.injEq,true_and] at hv
   obtain⟨rfl,rfl⟩:=hv
   obtain⟨e0,e1,rfl⟩:=mw (HL.out x hm)
   have q0:=hce 0 e0 rfl
   have q1:=hce 1 e1 rfl
   simp only[Nat.add_zero] at q0 q1
   have hcall:=HF.out wr k _ HB.out hx
   clear hce hm hx
   cases hq:p k with
   | true =>
     rw[hq] at hcall
     have HC:=Fx hcall
     have HQ:=Fx hq
     clear hcall hq
     go_wp2_with fail
     refine HC.out.mono ?_
     rintro e w' ⟨rfl,hb'⟩
     have HB':=Fx hb'
     clear hb'
     go_wp2_with fail
     go_ret
     refine⟨⟨k,rfl,?_⟩,HB.out.trans (HB'.out.mono HB.out.size)⟩
     rw[decide_eq_true (Int.natCast_nonneg k)]
     exact (List.any_eq_true.2 ⟨k,List.mem_range.2 hlt,HQ.out⟩).symm
   | false =>
     rw[hq] at hcall
     have HC:=Fx hcall
     have HQ:=Fx hq
     clear hcall hq
     go_wp2_with fail
     refine HC.out.mono ?_
     rintro e w' ⟨rfl,hb'⟩
     have HB':=Fx hb'
     clear hb'
     go_wp2_with fail
     go_roundw
     case rel =>
      refine⟨k+1,by omega,by go_num,Fx (HB.out.trans (HB'.out.mono HB.out.size)),Fx (fun j hj=>?_)⟩
      rcases Nat.lt_or_ge j k with h1 | h1
      ·exact HP.out j h1
      ·obtain rfl:j=k:=by omega
       exact HQ.out
     case measure=>simp [intOf];omega
  ·obtain rfl:k=n:=by omega
   go_wp2_with fail
   go_ret
   refine⟨⟨-1,rfl,?_⟩,HB.out⟩
   rw[show decide ((0:Int) <= -1)=false from by decide]
   refine (List.any_eq_false.2 fun j hj=>?_).symm
   rw[HP.out j (List.mem_range.1 hj)]
   decide
theorem oU (g:Nat) (lb:Array Value) (eg:∀ args w,(callFunc g args).run prog w=.ok (.enter g args) w) (p:Nat->Bool) (w:World) (v:Value) (xs:List (List Value)) (h:aj w v 2 xs) (hl:∀ x∈xs,x.length=2)
 (hf:∀ (W:World) (k:Nat) (x:List Value),Below w.heap.size w W->xs[k]? = some x->Calls prog g (#[.agg x.toArray]++lb) W fun e W'=>e=.returned (.bool (p k))/\Below W.heap.size W W') :
 Calls prog 165 #[v,.func (.func g) #[] lb] w fun e w'=>e=.returned (.bool ((List.range xs.length).any p))/\Below w.heap.size w w':=by
 have HI:=Fx (uW g lb eg p w v xs h hl hf)
 clear h hl hf
 generalize (List.range xs.length).any p=R at *
 go_enter func165,ntmps165
 go_wp2_with fail
 refine HI.out.mono ?_
 rintro e w' ⟨⟨q,rfl,hq⟩,hb'⟩
 have HB':=Fx hb'
 clear hb'
 go_wp2_with fail
 go_ret
 exact⟨by first | rfl | simp,HB'.out⟩
variable {P : Program}
theorem dN {w:World} {ops:Array Oper} {rest:List Oper} {a:Act} {Q:Exit->Act->World->Prop} (o:Oper) (hgd:o.guard=none) (s x:Operand) (t:TypeId)
 (ho:o.op=.call { callee:=.builtin .append,args:=#[s,x],argTypes:=#[t,t] })
 (base:Nat) (e:TypeId) (i:TypeInfo) (z:Value) (size bytes:Nat) (ht:P.underlying t=some (.slice e)) (hi:P.info? e=some i) (hz:i.zero=some z)
 (hsize:i.size=size) (hby:i.bytes=bytes) (hzs:z.cells.size=size) (hsz:0<size)
 (v:Value) (n:Nat) (cur:List Value) (hs:a.eval s=v) (hown:w.ownsRow base e size v n cur)
 (xv:Value) (hx:a.eval x=xv) (xs:List (List Value)) (hrow:aj w xv size xs) (hl:∀ x∈xs,x.length=size) (h1:∀ x∈xs,∀ u∈x,u.oneCell'=true)
 (h63:n+xs.length<=maxLen) (hbytes:(n+xs.length) * bytes<=140737488355328) (hbase:base<=w.heap.size)
 (h:∀ v' w',w'.ownsRow base e size v' (n+xs.length) (cur++xs.flatten)->w.grownBy w' v.ownBlock->wpList P ops Q rest (a.put o.dst v') w'):wpList P ops Q (o::rest) a w :=
 wpList_plain hgd fun _ hK=>jk s x t ho base e i z size bytes ht hi hz hsize hby hzs hsz v n cur hs hown xv hx xs hrow hl h1 h63 hbytes hbase fun v' w' h2 h3=>hK _ _ (h v' w' h2 h3)
theorem Tryz.infoC_Val:(prog.info? 111).map (fun i=>(i.zero,i.size,i.bytes))=some (some (.agg #[.int .i64 0,.int .i64 0,.string ⟨#[]⟩]),3,32):=by kernel_rfl
theorem iU (w:World) (v:Value) (xs:List (List Value)) (h:aj w v 3 xs) (hl:∀ x∈xs,x.length=3) (h1:∀ x∈xs,∀ u∈x,u.oneCell'=true) (hb:xs.length * 32<=140737488355328) :
 Calls prog 96 #[v] w fun e w'=>∃ v',e=.returned v'/\w'.ownsRow w.heap.size 111 3 v' xs.length xs.flatten/\Below w.heap.size w w':=by
 have heq:=fun (w:World) (a:Option Addr) (n c:Nat)=>Lib.run_eql_slice_nil (P:=prog) w 59 111 a n c 0 0 underlying59
 obtain⟨i0,hi0,hz0,hz1,hz2⟩:=info_parts Tryz.infoC_Val
 obtain⟨ad,cap,rfl,hnc,hcm⟩:=h.form
 have hln:=h.len
 have he0:(w.alloc (.cells #[] 111)).ownsRow w.heap.size 111 3 (.slice (some ⟨w.heap.size,0,none⟩) 0 0) 0 [] :=
  ⟨rfl,.inr ⟨w.heap.size,0,#[],rfl,FA,heap_alloc_new w _,FA,Fz,rfl,rfl⟩⟩
 by_cases h0:xs=[]
 ·subst h0
  cases ad with
  | none =>
    clear h hl h1 hb he0 hnc hcm hln
    go_enter func96,ntmps96
    go_wp2_with fail
    go_ret
    exact⟨_,rfl,World.ownsRow_nil _ _ _ _,Below.refl _ _⟩
  | some ad =>
    have HE0:=Fx he0
    clear h hl h1 hb he0 hnc hcm hln
    go_enter func96,ntmps96
    go_wp2_with fail
    go_ret
    exact⟨_,rfl,HE0.out,ae Fy _⟩
 ·have hpos:=List.length_pos_iff.2 h0
  obtain⟨x0,hx0⟩:∃ x0,xs[0]? = some x0:=⟨xs[0]'hpos,FD hpos⟩
  obtain⟨b,off,cap2,hv,_,_,hbl,_⟩:=h.get hx0
  simp only[Value.slice.injEq,true_and] at hv
  obtain⟨rfl,rfl⟩:=hv
  have HR:=Fx (h.keep (ae (Below.refl w.heap.size w) (.cells #[] 111)))
  have HL:=Fx hl
  have HO:=Fx h1
  have HE0:=Fx he0
  have hn0:¬ xs.length=0:=by omega
  generalize hN:xs.length=n at *
  have HN:=Fx hN
  clear h hl h1 he0 hx0 hN h0
  unfold maxLen at hcm
  go_enter func96,ntmps96
  go_wp2_with (at_builtin;refine dN _ rfl (.tmp 5) (.tmp 6) 59 rfl w.heap.size 111 i0 (.agg #[.int .i64 0,.int .i64 0,.string ⟨#[]⟩]) 3 32 underlying59 hi0 hz0 hz1 hz2 rfl (by decide) (.slice (some ⟨w.heap.size,0,none⟩) 0 0) 0 [] rfl HE0.out _ rfl xs HR.out HL.out HO.out ?c1 ?c2 (by simp) ?_)
  case c1=>rw[HN.out];unfold maxLen;omega
  case c2=>rw[HN.out];omega
  intro v1 w1 hown1 hgrow1
  rw[HN.out] at hown1
  have hb1:Below w.heap.size w w1:=(ae Fy _).trans (((aq.refl (fun k=>k=w.heap.size) _).grown hgrow1 (fun k hk _=>by simp [Value.ownBlock] at hk;exact hk.symm)).below (by simp) (fun k hk=>by omega))
  have HO1:Hid (w1.ownsRow w.heap.size 111 3 v1 n xs.flatten):=Fx (by simpa using hown1)
  have HB1:=Fx hb1
  clear hown1 hgrow1 hb1
  go_wp2_with fail
  go_ret
  exact⟨_,rfl,HO1.out,HB1.out⟩
theorem yK (w:World):Calls prog 266 #[.int .i64 512,.int .i64 1073741824] w fun e w'=>e=.returned (.tuple #[.pointer (some ⟨w.heap.size,0,none⟩),.int .i64 0])/\w'=w.alloc (.cells #[.int .i64 512,.int .i64 1073741824,.slice none 0 0,.slice none 0 0,.int .i64 0] 394):=by
 go_enter func266,ntmps266
 go_wp2_with fail
 go_ret2
 exact⟨rfl,rfl⟩
theorem yW (w:World):Calls prog 268 #[.int .i64 512,.int .i64 1073741824] w fun e w'=>e=.returned (.tuple #[.pointer (some ⟨w.heap.size,0,none⟩),.int .i64 0])/\w'=w.alloc (.cells #[.int .i64 512,.int .i64 1073741824,.slice none 0 0,.slice none 0 0,.int .i64 0] 400):=by
 go_enter func268,ntmps268
 go_wp2_with fail
 go_ret2
 exact⟨rfl,rfl⟩
theorem BL (w:World):Calls prog 269 #[.int .i64 512,.int .i64 513] w fun e w'=>e=.returned (.tuple #[.pointer (some ⟨w.heap.size,0,none⟩),.int .i64 0])/\w'=w.alloc (.cells #[.int .i64 512,.slice none 0 0,.int .i64 513,.slice none 0 0] 377):=by
 go_enter func269,ntmps269
 go_wp2_with fail
 go_ret2
 exact⟨rfl,rfl⟩
def fM:List Value:=[.int .u8 0,.slice none 0 0,.int .i64 0,.int .u8 0,.slice none 0 0,.int .i64 0,.int .u8 0,.slice none 0 0,.int .i64 0,.int .u8 0,.slice none 0 0,.int .i64 0,.int .u8 0,.slice none 0 0,.int .i64 0,.int .u8 0,.slice none 0 0,.int .i64 0,.int .u8 0,.slice none 0 0,.int .i64 0,.int .u8 0,.slice none 0 0,.int .i64 0]
theorem Tryz.infoPlace:(prog.info? 428).map (fun i=>(i.zero,i.size,i.bytes))=some (some (.agg #[.int .u8 0,.slice none 0 0,.int .i64 0]),3,40):=by kernel_rfl
theorem Ac (w:World):Calls prog 267 #[.int .i64 512] w fun e w'=>∃ x,e=.returned (.tuple #[.pointer (some ⟨x,0,none⟩),.int .i64 0])/\af w' x 397 #[.int .i64 512,.int .i64 0,.int .i64 0,.int .i64 0,.slice (some ⟨w.heap.size,0,none⟩) 8 8] /\
 w'.ownsRow w.heap.size 428 3 (.slice (some ⟨w.heap.size,0,none⟩) 8 8) 8 fM/\w.heap.size<=x/\Below w.heap.size w w':=by
 obtain⟨i0,hi0,hz0,hz1,hz2⟩:=info_parts Tryz.infoPlace
 go_enter func267,ntmps267
 go_wp2_with (at_make;refine wpList_make_full _ rfl _ _ 395 rfl w.heap.size 428 i0 (.agg #[.int .u8 0,.slice none 0 0,.int .i64 0]) 3 underlying395 hi0 hz0 hz1 _ _ _ _ 8 rfl rfl rfl rfl ?b2 ?b3 ?b4 ?_)
 case b2=>rw[hz2];omega
 case b3=>unfold maxLen;omega
 case b4=>omega
 intro w2 hown2 hgrow2
 have hbw2:Below w.heap.size w w2:=(Below.refl _ w).grown hgrow2 FA (fun q hq=>by cases hq)
 replace hown2:w2.ownsRow w.heap.size 428 3 (.slice (some ⟨w.heap.size,0,none⟩) 8 8) 8 fM:=by
  have hz:(madeCells #[.int .u8 0,.slice none 0 0,.int .i64 0] 24).toList=fM:=by kernel_rfl
  rw[<-hz]
  exact hown2
 have HO:=Fx hown2
 have HB:=Fx hbw2
 clear hown2 hgrow2 hbw2
 go_wp2_with fail
 go_ret2
 exact⟨_,rfl,af.new _ _ _,HO.out.alloc _,HB.out.size,ae HB.out _⟩
theorem Be (w:World) (a:Option Addr) (c:Nat):Calls prog 334 #[.slice a 0 c] w fun e w'=>e=.returned (.int .u64 14695981038468906945)/\w'=w:=by
 go_enter func334,ntmps334
 go_wp2_with fail
 go_loopw [3,8] (fun h i wr=>h=.int .u64 14695981039346656037/\i=.int .i64 0/\wr=w) (fun _ _ _=>0)
 case atStart=>exact⟨rfl,rfl,rfl⟩
 case round =>
  obtain⟨rfl,rfl,rfl⟩:=hrel
  go_wp2_with fail
  go_ret
  exact⟨rfl,rfl⟩
def bF (w:World) (b:Nat) (es:Array MapEntry) (c:Nat):Prop:=w.heap[b]? = some (.map es c)
structure Dd (w:World) (st a1 m1 h1 tb a2 m2 c1:Nat) (mk:Bool):Prop where
 pst:af w st 326 #[.int .i64 0,.int .i64 512,.int .i64 1,.slice none 0 0,.pointer (some ⟨a1,0,none⟩),.map (some m1),.pointer (some ⟨h1,0,none⟩),.slice none 0 0,.pointer (some ⟨a2,0,none⟩),.map (some m2),.pointer (some ⟨c1,0,none⟩),.bool mk,.slice none 0 0]
 pa1:af w a1 394 #[.int .i64 512,.int .i64 1073741824,.slice none 0 0,.slice none 0 0,.int .i64 0]
 pm1:bF w m1 #[] 0
 ph1:af w h1 397 #[.int .i64 512,.int .i64 0,.int .i64 0,.int .i64 0,.slice (some ⟨tb,0,none⟩) 8 8]
 ptb:w.ownsRow 0 428 3 (.slice (some ⟨tb,0,none⟩) 8 8) 8 fM
 pa2:af w a2 400 #[.int .i64 512,.int .i64 1073741824,.slice none 0 0,.slice none 0 0,.int .i64 0]
 pm2:bF w m2 #[] 0
 pc1:af w c1 377 #[.int .i64 512,.slice none 0 0,.int .i64 513,.slice none 0 0]
 pmm:m1≠m2
 plo:st<=a1/\st<=m1/\st<=h1/\st<=tb/\st<=a2/\st<=m2/\st<=c1
theorem bF.mt {w w':World} {B:Nat} {Ts:List TypeId} {b:Nat} {es:Array MapEntry} {c:Nat} (h:bF w b es c) (hm:MT B Ts w w'):bF w' b es c:=by
 unfold bF at *
 have hl:=(Array.getElem?_eq_some_iff.1 h).1
 refine (hm.block b hl ?_).trans h
 rintro ⟨_,cs,t,fr,h1,_⟩
 rw[h] at h1
 cases h1
theorem bF.lt {w:World} {b:Nat} {es:Array MapEntry} {c:Nat} (h:bF w b es c):b<w.heap.size:=(Array.getElem?_eq_some_iff.1 h).1
theorem Cr (w:World) (st:Nat) (h:af w st 326 #[.int .i64 0,.int .i64 512,.int .i64 1,.slice none 0 0,.pointer none,.map none,.pointer none,.slice none 0 0,.pointer none,.map none,.pointer none,.bool false,.slice none 0 0]) :
 Calls prog 236 #[.pointer (some ⟨st,0,none⟩)] w fun e w'=>e=.returned (.tuple #[])/\∃ a1 m1 h1 tb a2 m2 c1,Dd w' st a1 m1 h1 tb a2 m2 c1 false/\MT st [326] w w':=by
 obtain⟨a1,ha1⟩:∃ a1,w.heap.size=a1:=⟨_,rfl⟩
 have hmm:=@run_makeMap prog
 have La1:=Fx (show st<=a1 by rw[<-ha1];exact Nat.le_of_lt h.lt)
 have x1:=h.cell 1
 have xl:=h.lt
 simp only[FF] at x1
 have s0:=h.alloc (.cells #[.int .i64 512,.int .i64 1073741824,.slice none 0 0,.slice none 0 0,.int .i64 0] 394)
 have z4:=s0.cell 4
 have zf:=s0.frozen 4
 have zl:=s0.lt
 simp only[FF] at z4
 have H:=Fx h
 have S0:=Fx s0
 clear h s0
 go_enter func236,ntmps236
 go_wp2_with fail
 refine (yK _).mono ?_
 rintro e w0 ⟨rfl,rfl⟩
 go_upto_region 1 with fail
 obtain⟨W1,hW1⟩:∃ W1,(w.alloc (.cells #[.int .i64 512,.int .i64 1073741824,.slice none 0 0,.slice none 0 0,.int .i64 0] 394)).setCell ⟨st,4,none⟩ (.pointer (some ⟨a1,0,none⟩))=W1:=⟨_,rfl⟩
 rw[hW1]
 have s1:af W1 st 326 #[.int .i64 0,.int .i64 512,.int .i64 1,.slice none 0 0,.pointer (some ⟨a1,0,none⟩),.map none,.pointer none,.slice none 0 0,.pointer none,.map none,.pointer none,.bool false,.slice none 0 0]:=by rw[<-hW1];simpa using S0.out.set_ 4 (.pointer (some ⟨a1,0,none⟩))
 have b1:af W1 a1 394 #[.int .i64 512,.int .i64 1073741824,.slice none 0 0,.slice none 0 0,.int .i64 0]:=by rw[<-hW1,<-ha1];exact (af.new w _ _).far ((af.new w _ _).ne_ S0.out (by decide)) _
 have m1:MT st [326] w W1:=by rw[<-hW1];exact MT.setCell ((MT.refl w).alloc _) S0.out (by simp) FA _
 obtain⟨mp,hmp⟩:∃ mp,W1.heap.size=mp:=⟨_,rfl⟩
 have Lmp:=Fx (show st<=mp by rw[<-hmp];exact Nat.le_of_lt s1.lt)
 have s1':=s1.alloc (.map #[] 0)
 have z5:=s1'.cell 5
 have zf5:=s1'.frozen 5
 have zl5:=s1'.lt
 simp only[FF] at z5
 have S1:=Fx s1
 have B1:=Fx b1
 have M1:=Fx m1
 have HW1:=Fx hW1
 clear s1 b1 m1 hW1 s1' zf z4 zl xl x1
 go_upto_region 2 with fail
 obtain⟨W2,hW2⟩:∃ W2,(W1.alloc (.map #[] 0)).setCell ⟨st,5,none⟩ (.map (some mp))=W2:=⟨_,rfl⟩
 rw[hW2]
 have s2:af W2 st 326 #[.int .i64 0,.int .i64 512,.int .i64 1,.slice none 0 0,.pointer (some ⟨a1,0,none⟩),.map (some mp),.pointer none,.slice none 0 0,.pointer none,.map none,.pointer none,.bool false,.slice none 0 0]:=by rw[<-hW2];simpa using (S1.out.alloc (.map #[] 0)).set_ 5 (.map (some mp))
 have nst:st≠mp:=by rw[<-hmp];exact Nat.ne_of_lt S1.out.lt
 have b2:af W2 a1 394 #[.int .i64 512,.int .i64 1073741824,.slice none 0 0,.slice none 0 0,.int .i64 0]:=by rw[<-hW2];exact (B1.out.alloc _).far (B1.out.ne_ S1.out (by decide)) _
 have g2:bF W2 mp #[] 0:=by
  rw[<-hW2]
  exact (Below.heap_setCell _ _ _ mp (fun e=>nst e.symm)).trans (by rw[<-hmp];exact heap_alloc_new W1 _)
 have m2:MT st [326] w W2:=by rw[<-hW2];exact MT.setCell (M1.out.alloc _) (S1.out.alloc _) (by simp) FA _
 have x1:=s2.cell 1
 have xl:=s2.lt
 simp only[FF] at x1
 have S2:=Fx s2
 have B2:=Fx b2
 have M2:=Fx m2
 have G2:=Fx g2
 have HMP:=Fx (And.intro hmp nst)
 clear s2 b2 m2 g2 hW2 z5 zf5 zl5 hmp nst S1 B1 M1
 go_wp2_with fail
 refine (Ac W2).mono ?_
 rintro e w3 ⟨hx,rfl,hX,hT,hxl,hb⟩
 obtain⟨tb,htb⟩:∃ tb,W2.heap.size=tb:=⟨_,rfl⟩
 have Ltb:=Fx (show st<=tb/\st<=hx by have:=S2.out.lt;omega)
 rw[htb] at hX hT
 have s3:=S2.out.below hb S2.out.lt
 have z6:=s3.cell 6
 have zf6:=s3.frozen 6
 have zl6:=s3.lt
 simp only[FF] at z6
 have S3:=Fx s3
 have HB3:=Fx hb
 have HX3:=Fx hX
 have HT3:=Fx hT
 clear s3 hb hX hT x1 xl hxl htb
 go_upto_region 3 with fail
 obtain⟨W3,hW3⟩:∃ W3,w3.setCell ⟨st,6,none⟩ (.pointer (some ⟨hx,0,none⟩))=W3:=⟨_,rfl⟩
 rw[hW3]
 have s4:af W3 st 326 #[.int .i64 0,.int .i64 512,.int .i64 1,.slice none 0 0,.pointer (some ⟨a1,0,none⟩),.map (some mp),.pointer (some ⟨hx,0,none⟩),.slice none 0 0,.pointer none,.map none,.pointer none,.bool false,.slice none 0 0]:=by rw[<-hW3];simpa using S3.out.set_ 6 (.pointer (some ⟨hx,0,none⟩))
 have nx:hx≠st:=HX3.out.ne_ S3.out (by decide)
 have b4:af W3 a1 394 #[.int .i64 512,.int .i64 1073741824,.slice none 0 0,.slice none 0 0,.int .i64 0]:=by rw[<-hW3];exact (B2.out.below HB3.out B2.out.lt).far (B2.out.ne_ S2.out (by decide)) _
 have g4:bF W3 mp #[] 0:=by
  rw[<-hW3]
  exact (Below.heap_setCell _ _ _ mp (fun e=>HMP.out.2 e.symm)).trans ((HB3.out.block mp G2.out.lt).trans G2.out)
 have h4:af W3 hx 397 #[.int .i64 512,.int .i64 0,.int .i64 0,.int .i64 0,.slice (some ⟨tb,0,none⟩) 8 8]:=by rw[<-hW3];exact HX3.out.far nx _
 have m3:MT st [326] w3 W3:=by rw[<-hW3];exact MT.setCell (MT.refl w3) S3.out (by simp) FA _
 have t4:W3.ownsRow 0 428 3 (.slice (some ⟨tb,0,none⟩) 8 8) 8 fM:=m3.ownsRow (World.ownsRow.low HT3.out (Fz)) (by decide)
 have m4:MT st [326] w W3:=(M2.out.plusBelow HB3.out).trans m3
 have z7:=s4.cell 7
 have zf7:=s4.frozen 7
 have z3:=s4.cell 3
 have zl:=s4.lt
 simp only[FF] at z7 z3
 have S4:=Fx s4
 have B4:=Fx b4
 have G4:=Fx g4
 have H4:=Fx h4
 have T4:=Fx t4
 have M4:=Fx m4
 clear s4 b4 g4 h4 t4 m4 m3 nx hW3 z6 zf6 zl6 S3 HX3 HT3 HB3 B2 G2 M2 S2
 go_upto_region 4 with fail
 obtain⟨W4,hW4⟩:∃ W4,W3.setCell ⟨st,7,none⟩ (.slice none 0 0)=W4:=⟨_,rfl⟩
 rw[hW4]
 have s5:af W4 st 326 #[.int .i64 0,.int .i64 512,.int .i64 1,.slice none 0 0,.pointer (some ⟨a1,0,none⟩),.map (some mp),.pointer (some ⟨hx,0,none⟩),.slice none 0 0,.pointer none,.map none,.pointer none,.bool false,.slice none 0 0]:=by rw[<-hW4];simpa using S4.out.set_ 7 (.slice none 0 0)
 have q5:MT st [326] W3 W4:=by rw[<-hW4];exact MT.setCell (MT.refl _) S4.out (by simp) FA _
 have B5:=Fx (B4.out.mt q5 (by decide))
 have G5:=Fx (G4.out.mt q5)
 have H5:=Fx (H4.out.mt q5 (by decide))
 have T5:=Fx (q5.ownsRow T4.out (by decide))
 have M5:=Fx (M4.out.trans q5)
 have y3:=s5.cell 3
 have yl:=s5.lt
 simp only[FF] at y3
 have S5:=Fx s5
 clear s5 q5 hW4 z7 zf7 z3 zl S4 B4 G4 H4 T4 M4
 go_wp2_with fail
 clear y3 yl
 go_loopw [38] (fun i wr=>i=.int .i64 0/\wr=W4) (fun _ _=>0)
 case atStart=>exact⟨rfl,rfl⟩
 case round =>
  obtain⟨rfl,hwr⟩:=hrel
  have hwr':=hwr.symm
  subst hwr'
  have x1:=S5.out.cell 1
  have x2:=S5.out.cell 2
  have xl:=S5.out.lt
  simp only[FF] at x1 x2
  clear x1 x2 xl
  go_upto_region 9 with fail
  obtain⟨SS,hSS⟩:∃ SS:World->Prop,SS=fun W=>W.cell? ⟨st,1,none⟩=some (.int .i64 512)/\W.cell? ⟨st,2,none⟩=some (.int .i64 1)/\st<W.heap.size:=⟨_,rfl⟩
  have HSC:=Fx (fun W (q:SS W)=>(by rw[hSS] at q;exact q:W.cell? ⟨st,1,none⟩=some (.int .i64 512)/\W.cell? ⟨st,2,none⟩=some (.int .i64 1)/\st<W.heap.size))
  have HSI:=Fx (fun W (cs:Array Value) (q:af W st 326 cs) (k1:cs[1]? = some (.int .i64 512)) (k2:cs[2]? = some (.int .i64 1))=>(by
   have x1:=q.cell 1
   have x2:=q.cell 2
   rw[k1] at x1
   rw[k2] at x2
   rw[hSS]
   exact⟨x1,x2,q.lt⟩:SS W))
  clear hSS
  have HSS:SS W4.drew:=HSI.out _ _ S5.out.drew rfl rfl
  refine wp_region_held_drew (by kernel_rfl) HSS (fun _=>?_)
  refine Held.tk 0 60 HSS ?_
  refine Held.tk 1 61 HSS ?_
  refine Held.tk 2 62 HSS ?_
  refine Held.tk 3 63 HSS ?_
  refine Held.tk 4 64 HSS ?_
  refine Held.tk 5 65 HSS ?_
  refine Held.tk 6 66 HSS ?_
  refine Held.tk 7 67 HSS ?_
  refine Held.tk 8 68 HSS ?_
  refine Held.tk 9 69 HSS ?_
  refine Held.one 10 rfl (by kernel_rfl) (fun K hK=>?_)
  go_simp
  refine (yW _).mono ?_
  rintro e w6 ⟨rfl,rfl⟩
  refine hK.out _ _ (HSI.out _ _ (S5.out.drew.alloc _) rfl rfl) ?_
  clear hK K HSS
  have HSS:=HSI.out _ _ (S5.out.drew.alloc (.cells #[.int .i64 512,.int .i64 1073741824,.slice none 0 0,.slice none 0 0,.int .i64 0] 400)) rfl rfl
  try simp only[FG]
  refine Held.tk 11 59 HSS ?_
  refine Held.tk 12 71 HSS ?_
  refine Held.tk 13 72 HSS ?_
  refine Held.tk 14 73 HSS ?_
  refine Held.tk 15 74 HSS ?_
  refine Held.one 16 rfl (by kernel_rfl) (fun K hK=>?_)
  have s6:=(S5.out.alloc (.cells #[.int .i64 512,.int .i64 1073741824,.slice none 0 0,.slice none 0 0,.int .i64 0] 400)).drew
  have z8:=s6.cell 8
  have zf8:=s6.frozen 8
  have zl8:=s6.lt
  simp only[FF] at z8
  have s7:=(((S5.out.alloc (.cells #[.int .i64 512,.int .i64 1073741824,.slice none 0 0,.slice none 0 0,.int .i64 0] 400)).set_ 8 (.pointer (some ⟨W4.heap.size,0,none⟩))).drew)
  simp only[FG] at s7
  go_simp
  have HSS:=HSI.out _ _ s7 rfl rfl
  refine hK.out _ _ HSS ?_
  clear hK K s6 s7 z8 zf8 zl8
  try simp only[FG]
  refine wpAnyH_done (by kernel_rfl) ?_ _
  clear HSS HSC HSI
  obtain⟨a2,ha2⟩:∃ a2,W4.heap.size=a2:=⟨_,rfl⟩
  have La2:=Fx (show st<=a2 by rw[<-ha2];exact Nat.le_of_lt S5.out.lt)
  rw[ha2]
  obtain⟨W6,hW6⟩:∃ W6,((W4.alloc (.cells #[.int .i64 512,.int .i64 1073741824,.slice none 0 0,.slice none 0 0,.int .i64 0] 400)).setCell ⟨st,8,none⟩ (.pointer (some ⟨a2,0,none⟩))).drew=W6:=⟨_,rfl⟩
  rw[hW6]
  have s6:af W6 st 326 #[.int .i64 0,.int .i64 512,.int .i64 1,.slice none 0 0,.pointer (some ⟨a1,0,none⟩),.map (some mp),.pointer (some ⟨hx,0,none⟩),.slice none 0 0,.pointer (some ⟨a2,0,none⟩),.map none,.pointer none,.bool false,.slice none 0 0]:=by rw[<-hW6];simpa using ((S5.out.alloc (.cells #[.int .i64 512,.int .i64 1073741824,.slice none 0 0,.slice none 0 0,.int .i64 0] 400)).set_ 8 (.pointer (some ⟨a2,0,none⟩))).drew
  have a6:af W6 a2 400 #[.int .i64 512,.int .i64 1073741824,.slice none 0 0,.slice none 0 0,.int .i64 0]:=by rw[<-hW6,<-ha2];exact ((af.new W4 _ _).far ((af.new W4 400 #[.int .i64 512,.int .i64 1073741824,.slice none 0 0,.slice none 0 0,.int .i64 0]).ne_ (S5.out.alloc _) (by decide)) _).drew
  have q6:MT st [326] W4 W6:=by rw[<-hW6];exact (MT.setCell ((MT.refl W4).alloc _) (S5.out.alloc _) (by simp) FA _).drew
  have B6:=Fx (B5.out.mt q6 (by decide))
  have G6:=Fx (G5.out.mt q6)
  have H6:=Fx (H5.out.mt q6 (by decide))
  have T6:=Fx (q6.ownsRow T5.out (by decide))
  have M6:=Fx (M5.out.trans q6)
  obtain⟨mq,hmq⟩:∃ mq,W6.heap.size=mq:=⟨_,rfl⟩
  have Lmq:=Fx (show st<=mq by rw[<-hmq];exact Nat.le_of_lt s6.lt)
  have s6':=s6.alloc (.map #[] 0)
  have z9:=s6'.cell 9
  have zf9:=s6'.frozen 9
  have zl9:=s6'.lt
  simp only[FF] at z9
  have S6:=Fx s6
  have A6:=Fx a6
  clear s6 a6 q6 s6' hW6 ha2 S5 B5 G5 H5 T5 M5
  go_upto_region 11 with fail
  obtain⟨W7,hW7⟩:∃ W7,(W6.alloc (.map #[] 0)).setCell ⟨st,9,none⟩ (.map (some mq))=W7:=⟨_,rfl⟩
  rw[hW7]
  have s7:af W7 st 326 #[.int .i64 0,.int .i64 512,.int .i64 1,.slice none 0 0,.pointer (some ⟨a1,0,none⟩),.map (some mp),.pointer (some ⟨hx,0,none⟩),.slice none 0 0,.pointer (some ⟨a2,0,none⟩),.map (some mq),.pointer none,.bool false,.slice none 0 0]:=by rw[<-hW7];simpa using (S6.out.alloc (.map #[] 0)).set_ 9 (.map (some mq))
  have nst:st≠mq:=by rw[<-hmq];exact Nat.ne_of_lt S6.out.lt
  have nmm:mp≠mq:=by rw[<-hmq];exact Nat.ne_of_lt G6.out.lt
  have g7:bF W7 mq #[] 0:=by
   rw[<-hW7]
   exact (Below.heap_setCell _ _ _ mq (fun e=>nst e.symm)).trans (by rw[<-hmq];exact heap_alloc_new W6 _)
  have q7:MT st [326] W6 W7:=by rw[<-hW7];exact MT.setCell ((MT.refl W6).alloc _) (S6.out.alloc _) (by simp) FA _
  have B7:=Fx (B6.out.mt q7 (by decide))
  have C7:=Fx (A6.out.mt q7 (by decide))
  have G7:=Fx (G6.out.mt q7)
  have H7:=Fx (H6.out.mt q7 (by decide))
  have T7:=Fx (q7.ownsRow T6.out (by decide))
  have M7:=Fx (M6.out.trans q7)
  have S7:=Fx s7
  have Q7:=Fx g7
  have NM:=Fx nmm
  clear s7 q7 g7 nst nmm hW7 hmq z9 zf9 zl9 S6 B6 G6 H6 T6 M6 A6
  obtain⟨SS,hSS⟩:∃ SS:World->Prop,SS=fun W=>W.cell? ⟨st,1,none⟩=some (.int .i64 512)/\W.cell? ⟨st,2,none⟩=some (.int .i64 1)/\st<W.heap.size:=⟨_,rfl⟩
  have HSC:=Fx (fun W (q:SS W)=>(by rw[hSS] at q;exact q:W.cell? ⟨st,1,none⟩=some (.int .i64 512)/\W.cell? ⟨st,2,none⟩=some (.int .i64 1)/\st<W.heap.size))
  have HSI:=Fx (fun W (cs:Array Value) (q:af W st 326 cs) (k1:cs[1]? = some (.int .i64 512)) (k2:cs[2]? = some (.int .i64 1))=>(by
   have x1:=q.cell 1
   have x2:=q.cell 2
   rw[k1] at x1
   rw[k2] at x2
   rw[hSS]
   exact⟨x1,x2,q.lt⟩:SS W))
  clear hSS
  have HSS:SS W7.drew:=HSI.out _ _ S7.out.drew rfl rfl
  refine wp_region_held_drew (by kernel_rfl) HSS (fun _=>?_)
  refine Held.tk 0 80 HSS ?_
  refine Held.tk 1 81 HSS ?_
  refine Held.tk 2 82 HSS ?_
  refine Held.tk 3 83 HSS ?_
  refine Held.tk 4 84 HSS ?_
  refine Held.tk 5 85 HSS ?_
  refine Held.tk 6 86 HSS ?_
  refine Held.tk 7 87 HSS ?_
  refine Held.tk 8 88 HSS ?_
  refine Held.tk 9 89 HSS ?_
  refine Held.tk 10 90 HSS ?_
  refine Held.tk 11 91 HSS ?_
  refine Held.tk 12 92 HSS ?_
  refine Held.tk 13 93 HSS ?_
  refine Held.tk 14 94 HSS ?_
  refine Held.tk 15 95 HSS ?_
  refine Held.tk 16 96 HSS ?_
  refine Held.tk 17 97 HSS ?_
  refine Held.tk 18 98 HSS ?_
  refine Held.tk 19 99 HSS ?_
  refine Held.one 20 rfl (by kernel_rfl) (fun K hK=>?_)
  go_simp
  refine (BL _).mono ?_
  rintro e w8 ⟨rfl,rfl⟩
  refine hK.out _ _ (HSI.out _ _ (S7.out.drew.alloc _) rfl rfl) ?_
  clear hK K HSS
  have HSS:=HSI.out _ _ (S7.out.drew.alloc (.cells #[.int .i64 512,.slice none 0 0,.int .i64 513,.slice none 0 0] 377)) rfl rfl
  try simp only[FG]
  refine Held.tk 21 79 HSS ?_
  refine Held.tk 22 101 HSS ?_
  refine Held.tk 23 102 HSS ?_
  refine Held.tk 24 103 HSS ?_
  refine Held.tk 25 104 HSS ?_
  refine Held.one 26 rfl (by kernel_rfl) (fun K hK=>?_)
  have s8:=(S7.out.alloc (.cells #[.int .i64 512,.slice none 0 0,.int .i64 513,.slice none 0 0] 377)).drew
  have z8:=s8.cell 10
  have zf8:=s8.frozen 10
  have zl8:=s8.lt
  simp only[FF] at z8
  have s9:=(((S7.out.alloc (.cells #[.int .i64 512,.slice none 0 0,.int .i64 513,.slice none 0 0] 377)).set_ 10 (.pointer (some ⟨W7.heap.size,0,none⟩))).drew)
  simp only[FG] at s9
  go_simp
  have HSS:=HSI.out _ _ s9 rfl rfl
  refine hK.out _ _ HSS ?_
  clear hK K s8 s9 z8 zf8 zl8
  try simp only[FG]
  refine wpAnyH_done (by kernel_rfl) ?_ _
  clear HSS HSC HSI
  go_end0
  obtain⟨c1,hc1⟩:∃ c1,W7.heap.size=c1:=⟨_,rfl⟩
  have Lc1:=Fx (show st<=c1 by rw[<-hc1];exact Nat.le_of_lt S7.out.lt)
  rw[hc1]
  have s9:=((S7.out.alloc (.cells #[.int .i64 512,.slice none 0 0,.int .i64 513,.slice none 0 0] 377)).set_ 10 (.pointer (some ⟨c1,0,none⟩))).drew
  have q9:MT st [326] W7 ((W7.alloc (.cells #[.int .i64 512,.slice none 0 0,.int .i64 513,.slice none 0 0] 377)).setCell ⟨st,10,none⟩ (.pointer (some ⟨c1,0,none⟩))).drew:=(MT.setCell ((MT.refl W7).alloc _) (S7.out.alloc _) (by simp) FA _).drew
  have c9:=((af.new W7 377 #[.int .i64 512,.slice none 0 0,.int .i64 513,.slice none 0 0]).far ((af.new W7 377 #[.int .i64 512,.slice none 0 0,.int .i64 513,.slice none 0 0]).ne_ (S7.out.alloc _) (by decide)) (p:=⟨st,10,none⟩) (.pointer (some ⟨c1,0,none⟩))).drew
  rw[hc1] at c9
  refine⟨rfl,a1,mp,hx,tb,a2,mq,c1,⟨by simpa using s9,B7.out.mt q9 (by decide),G7.out.mt q9,H7.out.mt q9 (by decide),q9.ownsRow T7.out (by decide),C7.out.mt q9 (by decide),Q7.out.mt q9,c9,NM.out,La1.out,Lmp.out,Ltb.out.2,Ltb.out.1,La2.out,Lmq.out,Lc1.out⟩,M7.out.trans q9⟩
def dq (w:World) (b:Nat) (es:Array MapEntry) (c:Nat):World := { w with heap:=w.heap.setIfInBounds b (.map es c) }
theorem dq.modw (w:World) (b:Nat) (es:Array MapEntry) (c:Nat):aq (fun k=>k=b) w (dq w b es c) :=
 ⟨rfl,rfl,rfl,by unfold dq;simp,fun i hi hn=>by
  unfold dq
  show (w.heap.setIfInBounds b _)[i]? = _
  rw[Array.getElem?_setIfInBounds_ne (fun e=>hn e.symm)]⟩
theorem dq.at {w:World} {b:Nat} {es es':Array MapEntry} {c c':Nat} (h:bF w b es c):bF (dq w b es' c') b es' c':=by
 unfold dq bF
 show (w.heap.setIfInBounds b _)[b]? = _
 rw[Array.getElem?_setIfInBounds_self_of_lt h.lt]
theorem bF.mod {F:Nat->Prop} {w w':World} {b:Nat} {es:Array MapEntry} {c:Nat} (h:bF w b es c) (hm:aq F w w') (hg:¬ F b):bF w' b es c:=(hm.block b h.lt hg).trans h
theorem bF.drew {w:World} {b:Nat} {es:Array MapEntry} {c:Nat} (h:bF w b es c):bF w.drew b es c:=h
theorem bF.ne {w:World} {b g:Nat} {t:TypeId} {cs:Array Value} {es:Array MapEntry} {c:Nat} (h:bF w b es c) (k:af w g t cs):b≠g:=by
 rintro rfl
 unfold bF at h
 unfold af at k
 rw[h] at k
 cases k
theorem EZ {P:Program} {w:World} (mty kt et:TypeId) (r c:Nat) (s:ByteArray) (val:Value) (hm:P.underlying mty=some (.map kt et)) (hk:P.underlying kt=some .string) (hb:bF w r #[] c) :
 (Instr.mapUpdate mty (.map (some r)) (.string s) val).run P w=.ok () (dq w r #[{ key:=.string s,val:=val,born:=c }] (c+1)):=run_mapUpdate_first w mty kt et r c s val hm hk hb
theorem E2 {P:Program} {w:World} (mty kt et:TypeId) (r c:Nat) (n:Int) (val:Value) (hm:P.underlying mty=some (.map kt et)) (hk:P.underlying kt=some (.int .i64)) (hb:bF w r #[] c) :
 (Instr.mapUpdate mty (.map (some r)) (.int .i64 n) val).run P w=.ok () (dq w r #[{ key:=.int .i64 n,val:=val,born:=c }] (c+1)):=by
 have hf:Instr.findNow (.int .i64) (.int .i64 n) ([]:List MapEntry) 0=some none:=rfl
 have hc:(Instr.checkKey false 10000 kt (.int .i64 n)).run P w=.ok () w:=MapKept.run_checkKey (k:=.int .i64 n) hk (by simp [MapKept.IsKey]) false 9999
 simp [Instr.mapUpdate,run_underlying hm,MapKept.run_getObj_map hb,hc,MapKept.run_findKey hk hf,MapKept.run_setObj_map _ hb,Result.andThen,dq]
theorem Dd.mod {F:Nat->Prop} {w w':World} {st a1 m1 h1 tb a2 m2 c1:Nat} {mk:Bool} (h:Dd w st a1 m1 h1 tb a2 m2 c1 mk) (hm:aq F w w') (hF:∀ k,st<=k->¬ F k):Dd w' st a1 m1 h1 tb a2 m2 c1 mk:=by
 have q:=h.plo
 exact⟨h.pst.mod hm (hF _ FA),h.pa1.mod hm (hF _ (by omega)),h.pm1.mod hm (hF _ (by omega)),h.ph1.mod hm (hF _ (by omega)),hm.ownsRow h.ptb (fun k hk=>by cases hk;exact hF _ q.2.2.2.1),h.pa2.mod hm (hF _ (by omega)),h.pm2.mod hm (hF _ (by omega)),h.pc1.mod hm (hF _ (by omega)),h.pmm,h.plo⟩
theorem Tryz.infoC_Col:(prog.info? 109).map (fun i=>(i.zero,i.size,i.bytes))=some (some (.agg #[.string ⟨#[]⟩,.int .i64 0]),2,24):=by kernel_rfl
theorem yP (w:World) (v:Value) (xs:List (List Value)) (h:aj w v 2 xs) (hl:∀ x∈xs,x.length=2) (h1:∀ x∈xs,∀ u∈x,u.oneCell'=true) (hb:xs.length * 24<=140737488355328) :
 Calls prog 245 #[v] w fun e w'=>∃ v',e=.returned v'/\w'.ownsRow w.heap.size 109 2 v' xs.length xs.flatten/\Below w.heap.size w w':=by
 have heq:=fun (w:World) (a:Option Addr) (n c:Nat)=>Lib.run_eql_slice_nil (P:=prog) w 55 109 a n c 0 0 underlying55
 obtain⟨i0,hi0,hz0,hz1,hz2⟩:=info_parts Tryz.infoC_Col
 obtain⟨ad,cap,rfl,hnc,hcm⟩:=h.form
 have hln:=h.len
 have he0:(w.alloc (.cells #[] 109)).ownsRow w.heap.size 109 2 (.slice (some ⟨w.heap.size,0,none⟩) 0 0) 0 [] :=
  ⟨rfl,.inr ⟨w.heap.size,0,#[],rfl,FA,heap_alloc_new w _,FA,Fz,rfl,rfl⟩⟩
 by_cases h0:xs=[]
 ·subst h0
  cases ad with
  | none =>
    clear h hl h1 hb he0 hnc hcm hln
    go_enter func245,ntmps245
    go_wp2_with fail
    go_ret
    exact⟨_,rfl,World.ownsRow_nil _ _ _ _,Below.refl _ _⟩
  | some ad =>
    have HE0:=Fx he0
    clear h hl h1 hb he0 hnc hcm hln
    go_enter func245,ntmps245
    go_wp2_with fail
    go_ret
    exact⟨_,rfl,HE0.out,ae Fy _⟩
 ·have hpos:=List.length_pos_iff.2 h0
  obtain⟨x0,hx0⟩:∃ x0,xs[0]? = some x0:=⟨xs[0]'hpos,FD hpos⟩
  obtain⟨b,off,cap2,hv,_,_,hbl,_⟩:=h.get hx0
  simp only[Value.slice.injEq,true_and] at hv
  obtain⟨rfl,rfl⟩:=hv
  have HR:=Fx (h.keep (ae (Below.refl w.heap.size w) (.cells #[] 109)))
  have HL:=Fx hl
  have HO:=Fx h1
  have HE0:=Fx he0
  have hn0:¬ xs.length=0:=by omega
  generalize hN:xs.length=n at *
  have HN:=Fx hN
  clear h hl h1 he0 hx0 hN h0
  unfold maxLen at hcm
  go_enter func245,ntmps245
  go_wp2_with (at_builtin;refine dN _ rfl (.tmp 5) (.tmp 6) 55 rfl w.heap.size 109 i0 (.agg #[.string ⟨#[]⟩,.int .i64 0]) 2 24 underlying55 hi0 hz0 hz1 hz2 rfl (by decide) (.slice (some ⟨w.heap.size,0,none⟩) 0 0) 0 [] rfl HE0.out _ rfl xs HR.out HL.out HO.out ?c1 ?c2 (by simp) ?_)
  case c1=>rw[HN.out];unfold maxLen;omega
  case c2=>rw[HN.out];omega
  intro v1 w1 hown1 hgrow1
  rw[HN.out] at hown1
  have hb1:Below w.heap.size w w1:=(ae Fy _).trans (((aq.refl (fun k=>k=w.heap.size) _).grown hgrow1 (fun k hk _=>by simp [Value.ownBlock] at hk;exact hk.symm)).below (by simp) (fun k hk=>by omega))
  have HO1:Hid (w1.ownsRow w.heap.size 109 2 v1 n xs.flatten):=Fx (by simpa using hown1)
  have HB1:=Fx hb1
  clear hown1 hgrow1 hb1
  go_wp2_with fail
  go_ret
  exact⟨_,rfl,HO1.out,HB1.out⟩
