/-
  The walks over CompileText of the reference and of the program.
  Condition: the text is one of bytes.
-/
import Derived.Test.YtfgpkadhegdffaaGreatPk23Cmb
import Derived.Test.YtfgpkadhegdffaaGreatPk31Jf
import Derived.Test.YtfgpkadhegdffaaGreatPk34Dr
namespace Go.Proofs.YtfgpkadhegdffaaGreat
open Go.RowKit
def CompT (K:Nat) (q:Option (List (Int × Int))) (o:Option DfaD):Prop:=(q = none ∧ o = none) ∨ ∃ es,q = some es ∧ es.length ≤ 2000000 ∧ CompO K es o
theorem readL_ok {s:List Nat} {es:List (Int × Int)} (h:readL s = some es):exOk es = true:=by
 obtain ⟨t,rfl,-,h60,-⟩:=readL_some h
 exact post_exOk t h60
theorem readL_l60 {s:List Nat} {es:List (Int × Int)} (h:readL s = some es):es.length ≤ 60:=(exOk_facts (readL_ok h)).2.2.2
theorem compT_small {K:Nat} (hK:K = 40) {q:Option (List (Int × Int))} {o:Option DfaD} (h:CompT K q o):(o.getD zeroD).next.length ≤ 40 ∧ sumLen (o.getD zeroD).next ≤ 120 ∧ (o.getD zeroD).ends.length ≤ 40:=by
 cases o with
 | none => exact ⟨Nat.zero_le _,by decide,Nat.zero_le _⟩
 | some d =>
  obtain ⟨-,h⟩ | ⟨es,-,-,h⟩:=h
  ·cases h
  ·have hs:=small_dfa (compO_ok hK h)
   exact ⟨hs.n,hs.sum,hs.e⟩
end Go.Proofs.YtfgpkadhegdffaaGreat
