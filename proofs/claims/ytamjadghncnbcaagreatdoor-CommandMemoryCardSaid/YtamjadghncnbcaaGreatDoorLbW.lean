/- strings.Builder as this program calls it: copyCheck, WriteByte, WriteString, walked (after the shelf's own walks). value.showByte, walked. value.Valid and value.Show, walked. Plain laws of value literals: reading what was written, writing what was read. No program in sight. Plain laws of numbers: the document's way of reading a number, and parseInt's. No program in sight. -/
import Derived.Test.YtamjadghncnbcaaGreatDoorProg
import Derived.Test.YtamjadghncnbcaaGreatDoorLaW
import Derived.WalkSpells
import Derived.WalkLawsBesides
import Derived.Lib.Hide
import Derived.Lib.Builder
import Derived.Lib.AppendStr
import Derived.Lib.UnsafeStr
import Derived.Deep.AppendLies
import Derived.Deep.RegionLaw
import Derived.Deep.Light
import Derived.Lib.AppendIntMem
import Derived.Lib.ParseIntBTie
import Derived.Lib.ItoaNum
import Derived.Lib.Bytealg
namespace Go.Proofs.YtamjadghncnbcaaGreatDoor
open Go.RowKit
set_option linter.unusedVariables false
def hexd (i:Int):UInt8:=UInt8.ofNat (if i<10 then 48+i else 87+i).toNat
theorem hexd_tab:∀ i:Fin 16,(ByteArray.mk #[48,49,50,51,52,53,54,55,56,57,97,98,99,100,101,102])[i.val]'(by have h:=i.isLt;exact h)=hexd i.val:=by decide
theorem hexd_at (i:Int) (h0:0<=i) (h1:i<16) (hp:i.toNat<(ByteArray.mk #[48,49,50,51,52,53,54,55,56,57,97,98,99,100,101,102]).size) :
 (ByteArray.mk #[48,49,50,51,52,53,54,55,56,57,97,98,99,100,101,102])[i.toNat]'hp=hexd i:=by
 have:=hexd_tab ⟨i.toNat,by omega⟩
 simp only[Int.toNat_of_nonneg h0] at this
 exact this
def showB (c:Int):List UInt8 :=
 if c=34∨c=92 then [92,UInt8.ofNat c.toNat]
 else if c=10 then [92,110]
 else if c=9 then [92,116]
 else if 32<=c/\c<=126 then [UInt8.ofNat c.toNat]
 else [92,120,hexd (c / 16),hexd (c % 16)]
theorem byte_of (c:Int) (h0:0<=c) (h1:c<=255):Value.int .u8 c=Value.int .u8 ((UInt8.ofNat c.toNat).toNat:Int):=by
 congr 1
 rw[UInt8.toNat_ofNat']
 omega
def validB (k n:Int) (t:List UInt8):Bool:=decide (k=1/\t=[]∨k=2/\n=0/\t.length<=64)
def showT (t:List UInt8):List UInt8:=t.flatMap fun c=>showB c.toNat
def showR (k n:Int) (t:List UInt8):List UInt8:=if validB k n t then (if k=1 then Lib.itoa n else 34::(showT t++[34])) else []
/-! numbers -/
theorem nDigits_le {k:Nat}:∀ {u:Nat},u<10 ^ (k+1)->Lib.nDigits u<=k+1:=by
 induction k with
 | zero=>intro u h;rw[Lib.nDigits_small (by simpa using h)];exact Nat.le_refl _
 | succ k ih =>
   intro u h
   by_cases hu:u<10
   ·rw[Lib.nDigits_small hu];omega
   ·rw[Lib.nDigits_big hu]
    have:=ih (u:=u / 10) (by rw[Nat.pow_succ] at h;omega)
    omega
theorem parse_lt (M:Nat):∀ (l:List UInt8) (acc u:Nat),Lib.parseUintM M acc l=.ok u->u<(acc+1) * 10 ^ l.length
 | [],acc,u,h=>by
   simp only[Lib.parseUintM] at h
   injection h with h
   simp;omega
 | c::r,acc,u,h=>by
   simp only[Lib.parseUintM] at h
   split at h
   ·split at h
    ·cases h
    ·split at h
     ·cases h
     ·have:=parse_lt M r _ u h
      rw[List.length_cons,Nat.pow_succ,Nat.mul_comm (10 ^ r.length),<-Nat.mul_assoc]
      refine Nat.lt_of_lt_of_le this (Nat.mul_le_mul_right _ ?_)
      omega
   ·cases h
theorem bt0 (c:UInt8) (l:List UInt8):bt (c::l) 0=c.toNat:=by simp [bt]
/-! texts -/
theorem bt1 (a b:UInt8) (l:List UInt8):bt (a::b::l) 1=b.toNat:=by simp [bt]
theorem bt2' (a b c:UInt8) (l:List UInt8):bt (a::b::c::l) 2=c.toNat:=by simp [bt]
theorem bt3' (a b c d:UInt8) (l:List UInt8):bt (a::b::c::d::l) 3=d.toNat:=by simp [bt]
theorem show_scanB {l:List UInt8} (hl:l≠[]) (hq34:bt l 0≠34) (h:(scanB l).2≠0):((showB (scanB l).1).length:Int)<=(scanB l).2:=by
 have h4:∀ c:Int,(showB c).length<=4:=by intro c;unfold showB;(repeat' split)<;>simp
 have h0:=bt_bd l 0
 have h1:=bt_bd l 1
 revert h
 unfold scanB
 repeat' split
 all_goals (intro h;simp only at h ⊢)
 all_goals first
  | (exact absurd rfl h)
  | (have:=h4 (hexI (bt l 2) * 16+hexI (bt l 3));omega)
  | skip
 all_goals unfold showB
 ·rename_i hq h32 h126
  rw[if_neg (by omega),if_neg (by omega),if_neg (by omega),if_pos (by omega)];simp
 ·rename_i hq;rw[if_pos hq];simp
 ·simp
 ·simp
theorem textScan_good:∀ (m:Nat) (l t:List UInt8) (n:Nat),l.length<=m->textScan l=some (t,n)->(showT t).length<=n/\n<l.length:=by
 intro m
 induction m with
 | zero =>
   intro l t n hl h
   have:l=[]:=List.length_eq_zero_iff.1 (by omega)
   subst this
   rw[textScan_nil] at h
   cases h
 | succ m ih =>
   intro l t n hl h
   by_cases h0:l=[]
   ·subst h0;rw[textScan_nil] at h;cases h
   have hpos:0<l.length:=List.length_pos_iff.2 h0
   by_cases hq:bt l 0=34
   ·rw[textScan_quote h0 hq] at h
    injection h with h
    injection h with ht hn
    subst ht hn
    exact⟨Nat.le_refl _,hpos⟩
   by_cases hn:(scanB l).2=0
   ·rw[textScan_bad h0 hq hn] at h;cases h
   obtain⟨hc,b0,b1,b2⟩:=scanB_bd l h0
   rw[textScan_step h0 hq hn] at h
   cases hr:textScan (l.drop (scanB l).2.toNat) with
   | none=>rw[hr] at h;cases h
   | some p =>
     obtain⟨t',n'⟩:=p
     rw[hr] at h
     injection h with h
     injection h with ht hn'
     subst ht hn'
     have hd:(l.drop (scanB l).2.toNat).length=l.length - (scanB l).2.toNat:=List.length_drop
     obtain⟨g1,g2⟩:=ih _ t' n' (by omega) hr
     have gs:=show_scanB h0 hq hn
     have e:((UInt8.ofNat (scanB l).1.toNat).toNat:Int)=(scanB l).1:=by rw[UInt8.toNat_ofNat'];omega
     have el:(showT (UInt8.ofNat (scanB l).1.toNat::t')).length=(showB (scanB l).1).length+(showT t').length:=by
      simp only[showT,List.flatMap_cons,List.length_append,e]
     rw[el]
     simp only at *
     omega
/-! values -/
theorem itoa_len {l:List UInt8} {n:Int} (h:Lib.parseIntB 64 l=.ok n):(Lib.itoa n).length<=l.length:=by
 have e2:(2:Nat) ^ 64 - 1=18446744073709551615:=by decide
 have key:∀ (r:List UInt8) (u:Nat),Lib.parseUintB 64 r=.ok u->(Lib.decDigits u).length<=r.length/\r≠[]:=by
  intro r u hu
  unfold Lib.parseUintB at hu
  split at hu
  ·cases hu
  ·rename_i hr
   refine⟨?_,hr⟩
   have hb:=parse_lt _ _ _ _ hu
   have hpos:0<r.length:=List.length_pos_iff.2 hr
   rw[Lib.decDigits_length]
   obtain⟨k,hk⟩:∃ k,r.length=k+1:=⟨r.length - 1,by omega⟩
   rw[hk] at hb ⊢
   exact nDigits_le (by simpa using hb)
 have pos:∀ u:Nat,(Lib.itoa (u:Int)).length=(Lib.decDigits u).length:=by
  intro u;unfold Lib.itoa;rw[if_neg (by omega)];simp
 cases l with
 | nil=>cases h
 | cons c r =>
   by_cases h43:c=43
   ·subst h43
    rw[Lib.parseIntB_plus] at h
    cases hu:Lib.parseUintB 64 r with
    | ok u =>
      rw[hu] at h
      simp only[Lib.signlessC] at h
      split at h
      ·cases h
      ·injection h with h
       subst h
       have:=(key r u hu).1
       rw[pos,List.length_cons];omega
    | _=>rw[hu] at h;cases h
   by_cases h45:c=45
   ·subst h45
    rw[Lib.parseIntB_minus] at h
    cases hu:Lib.parseUintB 64 r with
    | ok u =>
      rw[hu] at h
      simp only[Lib.signedC] at h
      split at h
      ·cases h
      ·injection h with h
       subst h
       have:=(key r u hu).1
       have hl:(Lib.itoa (-(u:Int))).length<=1+(Lib.decDigits u).length:=by
        by_cases h0:u=0
        ·subst h0
         have:=pos 0
         simp at *;omega
        ·unfold Lib.itoa
         rw[if_pos (by omega)]
         simp;omega
       rw[List.length_cons];omega
    | _=>rw[hu] at h;cases h
   ·rw[Lib.parseIntB_plain 64 c r (fun e=>h43 (UInt8.toNat_inj.1 e)) (fun e=>h45 (UInt8.toNat_inj.1 e))] at h
    cases hu:Lib.parseUintB 64 (c::r) with
    | ok u =>
      rw[hu] at h
      simp only[Lib.signlessC] at h
      split at h
      ·cases h
      ·injection h with h
       subst h
       have:=(key _ u hu).1
       rw[pos];exact this
    | _=>rw[hu] at h;cases h
theorem scan0 (l:List UInt8):scanR l 0=if Lib.hasPrefix l [34]=true then textR (l.drop 1) 1 else if numAt l=true then numR l 0 else bad 11:=by
 unfold scanR
 rw[if_neg (by omega)]
 simp only[Int.toNat_zero,List.drop_zero,Nat.zero_add,Int.zero_add]
theorem scanb (b l:List UInt8):scanR (b++l) b.length=if Lib.hasPrefix l [34]=true then textR (l.drop 1) (b.length+1) else if numAt l=true then numR (b++l) b.length else bad 11:=by
 have hd1:(b++l).drop (b.length+1)=l.drop 1:=by
  rw[List.drop_append,List.drop_eq_nil_of_le (by omega),List.nil_append];congr 1;omega
 unfold scanR
 rw[if_neg (by simp;omega)]
 simp only[Int.toNat_natCast,List.drop_left,hd1]
theorem scan_good (l:List UInt8):(scanR l 0).e=0->validB (scanR l 0).k (scanR l 0).n (scanR l 0).t=true/\(-9223372036854775808<=(scanR l 0).n/\(scanR l 0).n<=9223372036854775807) /\
 ((showR (scanR l 0).k (scanR l 0).n (scanR l 0).t).length:Int)<=(scanR l 0).stop/\0<=(scanR l 0).stop/\(scanR l 0).stop<=l.length:=by
 rw[scan0]
 intro h
 split at h
 ·rename_i hp
  rw[if_pos hp]
  unfold textR at *
  cases hs:textScan (l.drop 1) with
  | none=>rw[hs] at h;simp [bad] at h
  | some p =>
    obtain⟨t,n⟩:=p
    rw[hs] at h
    simp only at h ⊢
    split at h
    ·simp [bad] at h
    ·rename_i h64
     rw[if_neg h64]
     obtain⟨g1,g2⟩:=textScan_good _ _ t n (Nat.le_refl _) hs
     have hv:validB 2 0 t=true:=by simp [validB];omega
     rw[List.length_drop] at g2
     refine⟨hv,⟨by simp,by simp⟩,?_,by simp only;omega,by simp only;omega⟩
     simp only[showR]
     rw[if_pos hv,if_neg (by decide)]
     simp;omega
 ·rename_i hp
  rw[if_neg hp]
  split at h
  ·rename_i hn
   rw[if_pos hn]
   unfold numR at *
   split at h
   ·simp [bad] at h
   ·rename_i hz
    rw[if_neg hz]
    cases hpz:Lib.parseIntB 64 (numTok l 0) with
    | ok v =>
      have hb:=Lib.parseIntB_bounds hpz
      have e:(2:Nat) ^ (64 - 1)=9223372036854775808:=by decide
      rw[e] at hb
      have hlen:=itoa_len hpz
      have hv:validB 1 v []=true:=by simp [validB]
      have htl:(numTok l 0).length<=l.length:=by unfold numTok;simp;omega
      refine⟨hv,⟨by simp only;omega,by simp only;omega⟩,?_,by simp only;omega,by simp only;omega⟩
      simp only[showR]
      rw[if_pos hv,if_pos trivial]
      omega
    | _=>rw[hpz] at h;simp [bad] at h
  ·simp [bad] at h
theorem scan_shift (b l:List UInt8):scanR (b++l) b.length=⟨(scanR l 0).k,(scanR l 0).n,(scanR l 0).t,if (scanR l 0).e=0 then b.length+(scanR l 0).stop else 0,(scanR l 0).e⟩:=by
 rw[scan0,scanb]
 by_cases hp:Lib.hasPrefix l [34]=true
 ·rw[if_pos hp,if_pos hp]
  unfold textR
  cases textScan (l.drop 1) with
  | none=>rfl
  | some p =>
    obtain⟨t,n⟩:=p
    simp only
    by_cases h64:64<t.length
    ·rw[if_pos h64,if_pos h64];rfl
    ·rw[if_neg h64,if_neg h64]
     simp only[if_true]
     congr 1
     omega
 ·rw[if_neg hp,if_neg hp]
  by_cases hn:numAt l=true
  ·rw[if_pos hn,if_pos hn]
   have hd1:(b++l).drop (b.length+1)=l.drop 1:=by
    rw[List.drop_append,List.drop_eq_nil_of_le (by omega),List.nil_append];congr 1;omega
   have ht:numTok (b++l) b.length=numTok l 0:=by unfold numTok;rw[List.drop_left,hd1];rfl
   unfold numR
   rw[ht]
   by_cases hz:bt (Lib.trimPrefix (numTok l 0) [45]) 0=48/\1<(numTok l 0).length
   ·rw[if_pos hz,if_pos hz];rfl
   ·rw[if_neg hz,if_neg hz]
    cases Lib.parseIntB 64 (numTok l 0) with
    | ok v=>simp
    | _=>rfl
  ·rw[if_neg hn,if_neg hn];rfl
def dval (acc:Nat) (l:List UInt8):Nat:=l.foldl (fun a c=>a * 10+(c.toNat - 48)) acc
theorem dval_nil (acc:Nat):dval acc []=acc:=by unfold dval;rw[List.foldl_nil]
theorem dval_cons (acc:Nat) (c:UInt8) (r:List UInt8):dval acc (c::r)=dval (acc * 10+(c.toNat - 48)) r:=by unfold dval;rw[List.foldl_cons]
theorem dval_snoc (c:UInt8):∀ (l:List UInt8) (acc:Nat),dval acc (l++[c])=dval acc l * 10+(c.toNat - 48)
 | [],acc=>by rw[List.nil_append,dval_cons,dval_nil,dval_nil]
 | x::r,acc=>by rw[List.cons_append,dval_cons,dval_cons];exact dval_snoc c r _
theorem dval_ge:∀ (l:List UInt8) (acc:Nat),acc * 10 ^ l.length<=dval acc l
 | [],acc=>by simp [dval_nil]
 | c::r,acc=>by
   have h:=dval_ge r (acc * 10+(c.toNat - 48))
   simp only[dval_cons,List.length_cons,Nat.pow_succ]
   refine Nat.le_trans ?_ h
   rw[Nat.mul_comm (10 ^ r.length),<-Nat.mul_assoc]
   exact Nat.mul_le_mul_right _ (by omega)
theorem dval_lt:∀ (l:List UInt8) (acc:Nat),(∀ c∈l,digB c.toNat=true)->dval acc l<(acc+1) * 10 ^ l.length
 | [],acc,_=>by simp [dval_nil]
 | c::r,acc,hd=>by
   have h:=dval_lt r (acc * 10+(c.toNat - 48)) fun x hx=>hd x (List.mem_cons_of_mem _ hx)
   have hc:=hd c List.mem_cons_self
   simp only[digB,decide_eq_true_eq] at hc
   simp only[dval_cons,List.length_cons,Nat.pow_succ]
   refine Nat.lt_of_lt_of_le h ?_
   rw[Nat.mul_comm (10 ^ r.length),<-Nat.mul_assoc]
   exact Nat.mul_le_mul_right _ (by omega)
theorem dval_acc (l:List UInt8) (acc:Nat):acc<=dval acc l:=by
 refine Nat.le_trans ?_ (dval_ge l acc)
 exact Nat.le_mul_of_pos_right _ (Nat.pow_pos (by decide))
theorem parse_all:∀ (l:List UInt8) (acc:Nat),(∀ c∈l,digB c.toNat=true)->acc<=18446744073709551615 ->
 Lib.parseUintM 18446744073709551615 acc l=if dval acc l<=18446744073709551615 then .ok (dval acc l) else .range
 | [],acc,_,ha=>by simp [Lib.parseUintM,dval_nil,ha]
 | c::r,acc,hd,ha=>by
   have hc:=hd c List.mem_cons_self
   simp only[digB,decide_eq_true_eq] at hc
   have hge:=dval_acc r (acc * 10+(c.toNat - 48))
   rw[dval_cons]
   simp only[Lib.parseUintM]
   rw[if_pos (by omega)]
   by_cases h1:1844674407370955162<=acc
   ·rw[if_pos h1,if_neg (by omega)]
   ·rw[if_neg h1]
    by_cases h2:18446744073709551615<acc * 10+(c.toNat - 48)
    ·rw[if_pos h2,if_neg (by omega)]
    ·rw[if_neg h2]
     exact parse_all r _ (fun x hx=>hd x (List.mem_cons_of_mem _ hx)) (by omega)
theorem cmp_dval:∀ (a b:List UInt8) (x:Nat),a.length=b.length->(∀ c∈a,digB c.toNat=true)->(∀ c∈b,digB c.toNat=true)->(0<Lib.compareBytes a b ↔ dval x b<dval x a)
 | [],[],x,_,_,_=>by simp [Lib.compareBytes]
 | [],_::_,_,h,_,_=>by simp at h
 | _::_,[],_,h,_,_=>by simp at h
 | c::r,e::t,x,h,ha,hb=>by
   simp only[List.length_cons,Nat.add_right_cancel_iff] at h
   have hc:=ha c List.mem_cons_self
   have he:=hb e List.mem_cons_self
   simp only[digB,decide_eq_true_eq] at hc he
   have h1:=dval_lt r (x * 10+(c.toNat - 48)) fun x hx=>ha x (List.mem_cons_of_mem _ hx)
   have h2:=dval_lt t (x * 10+(e.toNat - 48)) fun x hx=>hb x (List.mem_cons_of_mem _ hx)
   have h3:=dval_ge r (x * 10+(c.toNat - 48))
   have h4:=dval_ge t (x * 10+(e.toNat - 48))
   simp only[Lib.compareBytes,dval_cons,UInt8.lt_iff_toNat_lt]
   rw[h] at h1 h3
   by_cases l1:c.toNat<e.toNat
   ·rw[if_pos l1]
    have:(x * 10+(c.toNat - 48)+1) * 10 ^ t.length<=(x * 10+(e.toNat - 48)) * 10 ^ t.length:=Nat.mul_le_mul_right _ (by omega)
    constructor
    ·intro h;omega
    ·intro h;omega
   ·rw[if_neg l1]
    by_cases l2:e.toNat<c.toNat
    ·rw[if_pos l2]
     have:(x * 10+(e.toNat - 48)+1) * 10 ^ t.length<=(x * 10+(c.toNat - 48)) * 10 ^ t.length:=Nat.mul_le_mul_right _ (by omega)
     constructor
     ·intro _;omega
     ·intro _;omega
    ·rw[if_neg l2]
     have e1:c.toNat=e.toNat:=by omega
     rw[e1]
     exact cmp_dval r t _ h (fun x hx=>ha x (List.mem_cons_of_mem _ hx)) (fun x hx=>hb x (List.mem_cons_of_mem _ hx))
def mostP:List UInt8:=[57,50,50,51,51,55,50,48,51,54,56,53,52,55,55,53,56,48,55]
def mostN:List UInt8:=[57,50,50,51,51,55,50,48,51,54,56,53,52,55,55,53,56,48,56]
theorem mostP_val:dval 0 mostP=9223372036854775807:=by decide +kernel
theorem mostN_val:dval 0 mostN=9223372036854775808:=by decide +kernel
theorem mostP_dig:∀ c∈mostP,digB c.toNat=true:=by decide +kernel
theorem mostN_dig:∀ c∈mostN,digB c.toNat=true:=by decide +kernel
theorem over_iff {d m:List UInt8} {V:Nat} (hd:∀ c∈d,digB c.toNat=true) (hne:d≠[]) (h0:¬ (bt d 0=48/\1<d.length)) (hm:m.length=19) (hmd:∀ c∈m,digB c.toNat=true) (hV:dval 0 m=V) (hV1:10 ^ 18<=V) (hV2:V<10 ^ 19) :
 (19<d.length∨d.length=19/\0<Lib.compareBytes d m) ↔ V<dval 0 d:=by
 constructor
 ·rintro (h | ⟨h,hc⟩)
  ·cases d with
   | nil=>exact absurd rfl hne
   | cons c r =>
     have hcd:=hd c List.mem_cons_self
     simp only[digB,decide_eq_true_eq] at hcd
     have hz:(c.toNat:Int)≠48:=fun e=>h0 ⟨by rw[bt0];exact e,by omega⟩
     have hg:=dval_ge r (0 * 10+(c.toNat - 48))
     have h1:1 * 10 ^ r.length<=(0 * 10+(c.toNat - 48)) * 10 ^ r.length:=Nat.mul_le_mul_right _ (by omega)
     have h2:10 ^ 19<=10 ^ r.length:=Nat.pow_le_pow_right (by decide) (by rw[List.length_cons] at h;omega)
     rw[dval_cons]
     omega
  ·rw[<-hV]
   exact (cmp_dval d m 0 (by omega) hd hmd).1 hc
 ·intro h
  rcases Nat.lt_trichotomy d.length 19 with hl | hl | hl
  ·exfalso
   have h1:=dval_lt d 0 hd
   have h2:10 ^ d.length<=10 ^ 18:=Nat.pow_le_pow_right (by decide) (by omega)
   omega
  ·refine .inr ⟨hl,(cmp_dval d m 0 (by omega) hd hmd).2 (by rw[hV];exact h)⟩
  ·exact .inl hl
theorem dig_take {l:List UInt8}:∀ c∈l.take (digs l),digB c.toNat=true:=by
 induction l with
 | nil=>intro c hc;simp at hc
 | cons x r ih =>
   intro c hc
   unfold digs at *
   rw[List.takeWhile_cons] at hc
   split at hc
   ·rename_i hx
    rw[List.length_cons,List.take_succ_cons,List.mem_cons] at hc
    rcases hc with rfl | hc
    ·exact hx
    ·exact ih c hc
   ·simp at hc
def refNum (l:List UInt8) (a f:Nat):Res :=
 if digs (l.drop f)=0 then bad 11
 else if bt l f=48/\(1<digs (l.drop f)∨a<f) then bad 12
 else if 19<digs (l.drop f)∨digs (l.drop f)=19/\0<Lib.compareBytes ((l.drop f).take (digs (l.drop f))) (if a<f then mostN else mostP) then bad 12
 else ⟨1,if a<f then -(dval 0 ((l.drop f).take (digs (l.drop f))):Int) else (dval 0 ((l.drop f).take (digs (l.drop f))):Int),[],f+digs (l.drop f),0⟩
theorem digs_pos {l:List UInt8} (h:0<digs l):∃ c r,l=c::r/\digB c.toNat=true/\digs l=1+digs r:=by
 cases l with
 | nil=>simp [digs] at h
 | cons c r =>
   unfold digs at *
   rw[List.takeWhile_cons] at *
   split at h
   ·rename_i hc
    rw[if_pos hc]
    exact⟨c,r,rfl,hc,by rw[List.length_cons];omega⟩
   ·simp at h
theorem num_plain {l:List UInt8} {a:Nat} (ha:a<l.length) (hm:bt l a≠45) (hq:bt l a≠34):scanR l a=refNum l a a:=by
 have hx:Lib.hasPrefix (l.drop a) [34]=false:=by
  rw[List.drop_eq_getElem_cons ha]
  simp only[Lib.hasPrefix,List.isPrefixOf,Bool.and_true,beq_eq_false_iff_ne]
  intro e
  apply hq
  unfold bt
  rw[List.getD_eq_getElem?_getD,List.getElem?_eq_getElem ha,<-e];rfl
 unfold scanR refNum
 rw[if_neg (by omega)]
 simp only[Int.toNat_natCast,hx,Bool.false_eq_true,if_false]
 have hb0:bt (l.drop a) 0=bt l a:=by rw[bt_drop,Nat.add_zero]
 by_cases hd:digB (bt l a)=true
 ·have hn:numAt (l.drop a)=true:=by
   unfold numAt;rw[hb0,hd,List.length_drop];simp;omega
  have hst:=digs_step ha hd
  rw[if_pos hn,if_neg (by omega)]
  have htok:numTok l a=(l.drop a).take (digs (l.drop a)):=by unfold numTok;rw[hst]
  have hlen:=numTok_len ha
  have hdd:=dig_take (l:=l.drop a)
  rw[<-htok] at hdd
  have hh:=(numTok_head ha).1
  have hne:=(numTok_head ha).2
  unfold numR
  rw[<-htok]
  have htr:Lib.trimPrefix (numTok l a) [45]=numTok l a:=by
   unfold Lib.trimPrefix
   rw[if_neg]
   cases ht:numTok l a with
   | nil=>exact absurd ht hne
   | cons c r =>
     rw[ht,bt0] at hh
     simp only[Lib.hasPrefix,List.isPrefixOf,Bool.and_true,beq_iff_eq]
     rintro rfl
     exact hm (by rw[<-hh];rfl)
  rw[htr,hh]
  have hl2:digs (l.drop a)=(numTok l a).length:=by omega
  rw[hl2]
  by_cases hz:bt l a=48/\1<(numTok l a).length
  ·rw[if_pos hz,if_pos ⟨hz.1,.inl hz.2⟩]
  ·rw[if_neg hz,if_neg (by omega)]
   simp only[Nat.lt_irrefl,if_false]
   have hov:=over_iff hdd hne (by rw[hh];exact hz) (m:=mostP) rfl mostP_dig mostP_val (by decide) (by decide)
   have hpa:=parse_all (numTok l a) 0 hdd (by decide)
   generalize numTok l a=d at *
   have e:(2:Nat) ^ (64 - 1)=9223372036854775808:=by decide
   have e2:(2:Nat) ^ 64 - 1=18446744073709551615:=by decide
   cases d with
   | nil=>exact absurd rfl hne
   | cons c r =>
     have hc:=hdd c List.mem_cons_self
     simp only[digB,decide_eq_true_eq] at hc
     rw[Lib.parseIntB_plain 64 c r (by omega) (by omega)]
     unfold Lib.parseUintB
     rw[if_neg (by simp),e,e2,hpa]
     by_cases hV:9223372036854775807<dval 0 (c::r)
     ·rw[if_pos (hov.2 hV)]
      by_cases hV2:dval 0 (c::r)<=18446744073709551615
      ·rw[if_pos hV2]
       simp only[Lib.signlessC]
       rw[if_pos (by omega)]
      ·rw[if_neg hV2];rfl
     ·rw[if_neg (fun h=>hV (hov.1 h)),if_pos (by omega)]
      simp only[Lib.signlessC]
      rw[if_neg (by omega)]
 ·have hd':digB (bt l a)=false:=by simpa using hd
  have hn:numAt (l.drop a)=false:=by
   unfold numAt;rw[hb0,hd'];simp [hm]
  rw[hn,if_neg (by simp),if_pos (digs_stop ha hd')]
theorem num_minus {l:List UInt8} {a:Nat} (ha:a<l.length) (hm:bt l a=45):scanR l a=refNum l a (a+1):=by
 have hx:Lib.hasPrefix (l.drop a) [34]=false:=by
  rw[List.drop_eq_getElem_cons ha]
  simp only[Lib.hasPrefix,List.isPrefixOf,Bool.and_true,beq_eq_false_iff_ne]
  intro e
  unfold bt at hm
  rw[List.getD_eq_getElem?_getD,List.getElem?_eq_getElem ha,Option.getD_some,<-e] at hm
  simp at hm
 unfold scanR refNum
 rw[if_neg (by omega)]
 simp only[Int.toNat_natCast,hx,Bool.false_eq_true,if_false]
 have hb0:bt (l.drop a) 0=45:=by rw[bt_drop,Nat.add_zero];exact hm
 have hb1:bt (l.drop a) 1=bt l (a+1):=by rw[bt_drop]
 have hnd:digB (45:Int)=false:=by decide
 by_cases hdz:digs (l.drop (a+1))=0
 ·have hn:numAt (l.drop a)=false:=by
   unfold numAt
   rw[hb0,hb1,hnd]
   simp only[Bool.false_eq_true,and_false,false_or,decide_eq_false_iff_not,List.length_drop,true_and,not_and]
   intro h1 h2
   have:=digs_step (by omega:a+1<l.length) h2
   omega
  rw[hn,if_neg (by simp),if_pos hdz]
 ·obtain⟨c,r,hl,hc,hdr⟩:=digs_pos (Nat.pos_of_ne_zero hdz)
  have hlt:a+1<l.length:=by
   rcases Nat.lt_or_ge (a+1) l.length with h | h
   ·exact h
   ·rw[List.drop_of_length_le h] at hl;cases hl
  have hbc:bt l (a+1)=c.toNat:=by
   have:bt (l.drop (a+1)) 0=c.toNat:=by rw[hl,bt0]
   rw[bt_drop,Nat.add_zero] at this
   exact this
  have hn:numAt (l.drop a)=true:=by
   unfold numAt
   rw[hb0,hb1,hbc,hc,List.length_drop]
   simp;omega
  rw[if_pos hn,if_neg hdz]
  have hdd:=dig_take (l:=l.drop (a+1))
  have htok:numTok l a=45::(l.drop (a+1)).take (digs (l.drop (a+1))):=by
   unfold numTok
   rw[List.drop_eq_getElem_cons ha,Nat.add_comm 1,List.take_succ_cons]
   congr 1
   have hm':=hm
   unfold bt at hm'
   rw[List.getD_eq_getElem?_getD,List.getElem?_eq_getElem ha,Option.getD_some] at hm'
   exact UInt8.toNat_inj.1 (show _=45 by omega)
  have hdl:((l.drop (a+1)).take (digs (l.drop (a+1)))).length=digs (l.drop (a+1)):=by
   have:=digs_le (l.drop (a+1))
   rw[List.length_take];omega
  have hh:bt ((l.drop (a+1)).take (digs (l.drop (a+1)))) 0=bt l (a+1):=by
   rw[hdr,hl,Nat.add_comm 1,List.take_succ_cons,bt0,hbc]
  have htr:Lib.trimPrefix (numTok l a) [45]=(l.drop (a+1)).take (digs (l.drop (a+1))):=by
   rw[htok];simp [Lib.trimPrefix,Lib.hasPrefix,List.isPrefixOf]
  unfold numR
  rw[htr,hh]
  have hlen:(numTok l a).length=1+digs (l.drop (a+1)):=by rw[htok,List.length_cons,hdl];omega
  rw[hlen]
  by_cases hz:bt l (a+1)=48
  ·rw[if_pos ⟨hz,by omega⟩,if_pos ⟨hz,.inr (by omega)⟩]
  ·rw[if_neg (by omega),if_neg (by omega)]
   rw[htok,Lib.parseIntB_minus]
   simp only[Nat.lt_add_one,if_true]
   have hov:=over_iff hdd (by rw[ne_eq,<-List.length_eq_zero_iff,hdl];exact hdz) (by rw[hh];omega) (m:=mostN) rfl mostN_dig mostN_val (by decide) (by decide)
   have hpa:=parse_all _ 0 hdd (by decide)
   rw[hdl] at hov
   have e:(2:Nat) ^ (64 - 1)=9223372036854775808:=by decide
   have e2:(2:Nat) ^ 64 - 1=18446744073709551615:=by decide
   unfold Lib.parseUintB
   rw[if_neg (by rw[<-List.length_eq_zero_iff,hdl];exact hdz),e,e2,hpa]
   generalize dval 0 ((l.drop (a+1)).take (digs (l.drop (a+1))))=V at *
   by_cases hV:9223372036854775808<V
   ·rw[if_pos (hov.2 hV)]
    by_cases hV2:V<=18446744073709551615
    ·rw[if_pos hV2]
     simp only[Lib.signedC]
     rw[if_pos (by omega)]
    ·rw[if_neg hV2];rfl
   ·rw[if_neg (fun h=>hV (hov.1 h)),if_pos (by omega)]
    simp only[Lib.signedC]
    rw[if_neg (by omega)]
    simp only
    congr 1
    omega
end Go.Proofs.YtamjadghncnbcaaGreatDoor
