/- DumpLines, walked. -/
import Derived.Test.YtgopfpjinohncaaGreatDoorDt0ZL
import Derived.Test.YtgopfpjinohncaaGreatDoorCbfZL
import Derived.Test.YtgopfpjinohncaaGreatDoorLd9ZL
import Derived.Test.YtgopfpjinohncaaGreatDoorDwL
import Derived.Test.YtgopfpjinohncaaGreatDoorDl9nZL
namespace Go.Proofs.YtgopfpjinohncaaGreatDoor
open Go.RowKit
set_option linter.unusedVariables false
set_option maxHeartbeats 16000000 in
set_option maxRecDepth 100000 in
theorem lines_law (w:World) (rv tv qv:Value) (rels:List Rln) (data:List Tbl) (qs:List Qry) (hR:RelsAt w rv rels) (hT:TblsAt w tv data) (hQ:QrysAt w qv qs) (bR:RlnB rels) (bT:∀ t∈data,RowsB t.rows) (bQ:∀ q∈qs,QryB q)
 (nR:rels.length<=1048576) (nD:data.length<=1048576) (nT:nRows data<=1048576) (nQ:qs.length<=1048576) (hg:GlobW w) :
 Calls Tryz.prog 3 #[rv,tv,qv] w fun e w'=>e=.returned (.bool true)/\Below w.heap.size w w':=by
 have HCQ:=Lib.hid (hQ.sml bQ)
 have hc1:=copyRels_any w rv rels hR (by omega)
 have HRC:=Lib.hid hR.colsS
 obtain⟨ta,tc,rfl,htn,htm⟩:=hT.form
 obtain⟨ra,rc,rfl,hrn,hrm⟩:=hR.form
 obtain⟨qa,qc,rfl,hqn,hqm⟩:=hQ.form
 have HR:=Lib.hid hR
 have HT:=Lib.hid hT
 have HQ:=Lib.hid hQ
 have BR:=Lib.hid bR
 have BT:=Lib.hid bT
 have BQ:=Lib.hid bQ
 have HG:=Lib.hid hg
 have HC1:=Lib.hid hc1
 clear hR hT hQ bR bT bQ hg hc1 hrn hrm hqn hqm
 unfold maxLen at htm
 obtain⟨rn,hrn⟩:∃ rn,rels.length=rn:=⟨_,rfl⟩
 obtain⟨dn,hdn⟩:∃ dn,data.length=dn:=⟨_,rfl⟩
 obtain⟨qn,hqn⟩:∃ qn,qs.length=qn:=⟨_,rfl⟩
 have HRN:=Lib.hid hrn
 have HDN:=Lib.hid hdn
 have HQN:=Lib.hid hqn
 rw[hrn] at HC1 HR nR ⊢
 rw[hdn] at HT nD htn ⊢
 rw[hqn] at HQ nQ ⊢
 clear hrn hdn hqn
 go_enter Tryz.func3,Tryz.ntmps3
 go_wp2_with fail
 refine HC1.out.mono ?_
 rintro e w1 ⟨v1,rfl,hrel,hb1⟩
 have hr1:=RelsOwn.at hrel (by rw[HRN.out];omega) HRC.out
 have HR1:=Lib.hid hr1
 have HB1:=Lib.hid hb1
 have HC2:=Lib.hid (copyTbls_any w1 _ data (HT.out.keep hb1) (by rw[HDN.out];omega) (fun t ht=>by have:=nRows_mem ht;omega))
 clear hrel hr1 hb1
 go_wp2_with fail
 refine HC2.out.mono ?_
 rintro e w2 ⟨v2,rfl,htb,hb2⟩
 have HT2:=Lib.hid (htb.at_ (by rw[HDN.out];omega) (fun t ht=>by have:=nRows_mem ht;omega))
 have HB2:=Lib.hid (bt2 HB1.out hb2)
 have HR2:=Lib.hid (HR1.out.keep hb2)
 have HC3:=Lib.hid (copyQrys_any w2 _ qs (HQ.out.keep (bt2 HB1.out hb2)) (by rw[HQN.out];omega) HCQ.out)
 clear htb hb2 HR1 HB1 HC2
 go_wp2_with fail
 refine HC3.out.mono ?_
 rintro e w3 ⟨v3,rfl,hqr,hb3⟩
 have hb30:=bt2 HB2.out hb3
 have HK3:=Lib.hid (And.intro (HR2.out.keep hb3) (And.intro (HT2.out.keep hb3) (hqr.at_ (by rw[HQN.out];omega) HCQ.out)))
 have HD3:=Lib.hid (dlines_any w3 v1 v2 v3 rels data qs (HR2.out.keep hb3) (HT2.out.keep hb3) (hqr.at_ (by rw[HQN.out];omega) HCQ.out) BR.out BT.out BQ.out (by rw[HRN.out];exact nR) (by omega) (by rw[HQN.out];exact nQ) (HG.out.below hb30))
 have HB3:=Lib.hid hb30
 clear hqr hb3 hb30 HR2 HT2 HB2 HC3
 obtain⟨E,hE⟩:∃ E,chkD rels data qs=E:=⟨_,rfl⟩
 obtain⟨LS,hLS⟩:∃ LS,(if chkD rels data qs=0 then linesP rels data qs else [])=LS:=⟨_,rfl⟩
 rw[hLS,hE] at HD3
 have HLL:Hid (LS.length<=8796093022208):=Lib.hid (by
  have h1:=linesP_len rels data qs
  have h2:=HRN.out
  have h3:=HQN.out
  have h4:rels.length * nRows data<=1048576 * 1048576:=Nat.mul_le_mul (by omega) nT
  rw[<-hLS]
  by_cases h:chkD rels data qs=0
  ·rw[if_pos h];omega
  ·rw[if_neg h];exact Nat.zero_le _)
 have HE:=Lib.hid hE
 have HLS:=Lib.hid hLS
 clear hE hLS
 go_wp2_with fail
 refine HD3.out.mono ?_
 rintro e w4 ⟨lv,rfl,hlv,hb4⟩
 have HL4:=Lib.hid hlv
 have HB4:=Lib.hid (bt2 HB3.out hb4)
 have HB34x:=Lib.hid hb4
 clear hlv hb4 HB3 HD3
 have HK4:=Lib.hid (And.intro (HK3.out.1.keep HB34x.out) (And.intro (HK3.out.2.1.keep HB34x.out) (HK3.out.2.2.keep HB34x.out)))
 have HD4:=Lib.hid (refLines_any w4 _ _ _ rels data qs (HR.out.keep HB4.out) (HT.out.keep HB4.out) (HQ.out.keep HB4.out) BR.out BT.out BQ.out (by rw[HRN.out];exact nR) (by rw[HDN.out];exact nD) (by omega) (by rw[HQN.out];exact nQ))
 rw[HLS.out,HE.out] at HD4
 clear HK3 HB34x
 go_wp2_with fail
 refine HD4.out.mono ?_
 rintro e w5 ⟨mv,rfl,hmv,hb5⟩
 have hls1:LS.length<=8796093022208:=HLL.out
 have HL5:=Lib.hid (And.intro ((OwnS.strs HL4.out hls1).keep hb5) (OwnS.strs hmv hls1))
 have HK5:=Lib.hid (And.intro (HK4.out.1.keep hb5) (And.intro (HK4.out.2.1.keep hb5) (HK4.out.2.2.keep hb5)))
 have HB5:=Lib.hid (bt2 HB4.out hb5)
 have HAW:=Lib.hid (awake26 w5 (HG.out.below HB5.out))
 clear hmv hb5 HD4 HK4 HB4 HL4 hls1
 go_wp2_with fail
 refine HAW.out.mono ?_
 rintro e w6 ⟨rfl,hb6⟩
 have hsm:=sameL_any w6 lv mv LS LS (HL5.out.1.keep hb6) (HL5.out.2.keep hb6)
 rw[decide_eq_true (rfl:LS=LS)] at hsm
 have HSM:=Lib.hid hsm
 have HK6:=Lib.hid (And.intro (HK5.out.1.keep hb6) (And.intro (HK5.out.2.1.keep hb6) (HK5.out.2.2.keep hb6)))
 have HB6:=Lib.hid (bt2 HB5.out hb6)
 clear hb6 hsm HAW HK5 HB5 HL5
 go_wp2_with fail
 refine HSM.out.mono ?_
 rintro e w7 ⟨rfl,hb7⟩
 have HB7:=Lib.hid (bt2 HB6.out hb7)
 have HSA:=Lib.hid (sameAll26_any w7 v1 _ v2 _ v3 _ rels data qs (HK6.out.1.keep hb7) (HR.out.keep HB7.out) (HK6.out.2.1.keep hb7) (HT.out.keep HB7.out) (HK6.out.2.2.keep hb7) (HQ.out.keep HB7.out))
 clear hb7 HSM HK6 HB6
 go_wp2_with fail
 refine HSA.out.mono ?_
 rintro e w8 ⟨rfl,hb8⟩
 have HB8:=Lib.hid (bt2 HB7.out hb8)
 clear hb8 HSA HB7
 go_wp2_with fail
 go_ret
 exact⟨rfl,HB8.out⟩
end Go.Proofs.YtgopfpjinohncaaGreatDoor
