/- osierref07.Tokens, walked. osierref08.Open, walked. -/
import Derived.Test.YtamjadghncnbcaaGreatDoorLeO
import Derived.Test.YtamjadghncnbcaaGreatDoorLbO
import Derived.Test.YtamjadghncnbcaaGreatDoorLfO
import Derived.Test.YtamjadghncnbcaaGreatDoorGfO
import Derived.Test.YtamjadghncnbcaaGreatDoorGoO
import Derived.Deep.RegionLaw
import Derived.Deep.Cut
import Derived.Deep.CutRange
import Derived.Deep.DeepCutAuto
namespace Go.Proofs.YtamjadghncnbcaaGreatDoor
open Go.RowKit
set_option linter.unusedVariables false
def bsL:ByteArray:=⟨#[97,98,99,100,101,102,103,104,105,106,107,108,109,110,111,112,113,114,115,116,117,118,119,120,121,122,65,66,67,68,69,70,71,72,73,74,75,76,77,78,79,80,81,82,83,84,85,86,87,88,89,90,95]⟩
def bsN:ByteArray:=⟨#[97,98,99,100,101,102,103,104,105,106,107,108,109,110,111,112,113,114,115,116,117,118,119,120,121,122,65,66,67,68,69,70,71,72,73,74,75,76,77,78,79,80,81,82,83,84,85,86,87,88,89,90,95,48,49,50,51,52,53,54,55,56,57]⟩
def bsD:ByteArray:=⟨#[48,49,50,51,52,53,54,55,56,57]⟩
def bsM:ByteArray:=⟨#[40,41,44,43,45]⟩
structure Asks (s:ByteArray):Prop where
 al:∀ (c:Int) (w:World),0<=c->c<=255->Calls Tryz.prog 136 #[.int .u8 c,.string ⟨#[97,98,99,100,101,102,103,104,105,106,107,108,109,110,111,112,113,114,115,116,117,118,119,120,121,122,65,66,67,68,69,70,71,72,73,74,75,76,77,78,79,80,81,82,83,84,85,86,87,88,89,90,95]⟩] w fun e w'=>e=.returned (.bool (letB c))/\w=w'
 ad:∀ (c:Int) (w:World),0<=c->c<=255->Calls Tryz.prog 136 #[.int .u8 c,.string ⟨#[48,49,50,51,52,53,54,55,56,57]⟩] w fun e w'=>e=.returned (.bool (digB c))/\w=w'
 am:∀ (c:Int) (w:World),0<=c->c<=255->Calls Tryz.prog 136 #[.int .u8 c,.string ⟨#[40,41,44,43,45]⟩] w fun e w'=>e=.returned (.bool (decide (c=45∨c=40∨c=41∨c=44∨c=43)))/\w=w'
 rb:∀ (i:Nat) (w:World),i<=s.size->Calls Tryz.prog 137 #[.string s,.int .i64 i,.string ⟨#[32,9]⟩] w fun e w'=>e=.returned (.int .i64 (runB [32,9] (s.data.toList.drop i):Nat))/\w=w'
 rn:∀ (i:Nat) (w:World),i<=s.size->Calls Tryz.prog 137 #[.string s,.int .i64 i,.string ⟨#[97,98,99,100,101,102,103,104,105,106,107,108,109,110,111,112,113,114,115,116,117,118,119,120,121,122,65,66,67,68,69,70,71,72,73,74,75,76,77,78,79,80,81,82,83,84,85,86,87,88,89,90,95,48,49,50,51,52,53,54,55,56,57]⟩] w fun e w'=>e=.returned (.int .i64 (nameRun (s.data.toList.drop i):Nat))/\w=w'
theorem asks (s:ByteArray) (hs:s.size<=281474976710656):Asks s:=by
 refine⟨fun c w h0 h1=>?_,fun c w h0 h1=>?_,fun c w h0 h1=>?_,fun i w hi=>?_,fun i w hi=>?_⟩
 ·have h:=among_any c bsL w (by decide)
  rw[show bsL.data.toList=setL from rfl,among_letters h0 h1] at h
  exact h
 ·have h:=among_any c bsD w (by decide)
  rw[show bsD.data.toList=setD from rfl,among_digits h0 h1] at h
  exact h
 ·have h:=among_any c bsM w (by decide)
  rw[show bsM.data.toList=[40,41,44,43,45] from rfl,among_marks h0 h1] at h
  exact h
 ·exact run_any s i ⟨#[32,9]⟩ w hi hs (by decide)
 ·have h:=run_any s i bsN w hi hs (by decide)
  rw[show bsN.data.toList=setL++setD from rfl,run_names] at h
  exact h
def startS (R:LxR):LS:=if R.e=0 then .ok R.ts else .bad R.at_ R.e
end Go.Proofs.YtamjadghncnbcaaGreatDoor
