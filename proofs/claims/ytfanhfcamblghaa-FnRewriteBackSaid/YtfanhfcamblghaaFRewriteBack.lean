/-
  FnRewriteBack: for all arguments the law answers true, and each argument reads as it did.
  No condition.
-/
import Derived.Test.YtfanhfcamblghaaRows
import Derived.Test.YtfanhfcamblghaaPv28LRewriteBack
import Derived.Test.YtfanhfcamblghaaPv29Ry
set_option maxRecDepth 100000
namespace Go.Proofs.Ytfanhfcamblghaa
open Go.ChangeShapes Go.WideShapes Go.ChangeAt Go.RowKit Go.Joins
theorem fnRewriteBack_lifted (os:Os) (started:os.Started) (H:Type) (enc:TypeId × Value→H) :
  ReturnsInHanded {} Try.checked os 5 .any (Rows.fnRewriteBackSpec.pre6 enc Try.prog Try.f5 Rows.fnRewriteBackRow.domain false) (Rows.fnRewriteBackSpec.post enc Try.prog Try.f5 false true false false):=by
 refine returnsInHanded_of_change (C:=Try.checked) Try.own started (by kernel_rfl) Try.func5
  (ChangeSpec.witness6 (enc:=enc) (C:=Try.checked) false ⟨#[],#[.slice none 0 0,.slice none 0 0],[]⟩ 8 (by kernel_rfl) (by kernel_rfl) (by kernel_rfl) (by kernel_rfl)) ?_
 intro W base args ds gs before hval0 hW _ _;have hval:∀ (j:Nat) t v,Try.f5.params[j]? = some t→args[j]? = some v→Value.okWide Try.prog W .any base t v:=hval0;have hW':=hW;obtain⟨p,q,hA0,hV,rfl,_,_⟩:=hW;have hA:DataW.TrodAll enc Try.prog W 0 (fun _=>true) true Try.f5.params.toList args.toList ds p:=hA0;rw[Try.params5] at hA hval;obtain⟨v0,v1,d0,d1,p0,p1,rfl,rfl,rfl,h0,h1⟩:=trodAll_two hA;obtain⟨rfl,rfl⟩:=trodVars_none hV;have hlt:∀ x∈p0++p1,x.block<W.heap.size:=fun x hx=>by have:=hW'.lt x;simp only[List.append_nil] at this;exact this (by simpa using hx)
 obtain⟨a0,len0,cap0,hv0⟩:=okWide_slice Try.underlying22 (hval 0 _ v0 rfl rfl);obtain⟨D0,R0⟩:=Zd8 h0 (by rw[hv0];rfl);obtain⟨a1,len1,cap1,hv1⟩:=okWide_slice Try.underlying22 (hval 1 _ v1 rfl rfl);obtain⟨D1,R1⟩:=Zd8 h1 (by rw[hv1];rfl);clear hA0 hval0 hA;simp only[List.append_nil] at hW';refine(ZdL D0 D1 v0 v1 W R0 R1).mono fun e W' ⟨he,hb⟩ => ?_
 subst he;refine⟨_,rfl,_,_,_,[],p0++p1,[],hW',trodAll_mk1 (shut_bool Try.underlying4 _),?_,rfl,hb.frame _,fun h=>by cases h⟩;exact trodAll_mk2 (Below.trod Try.laidOut Try.recLBytes Try.rowLBytes h0 hb (fun x hx=>hlt x (by simp[hx]))) (Below.trod Try.laidOut Try.recLBytes Try.rowLBytes h1 hb (fun x hx=>hlt x (by simp[hx])))
theorem fnRewriteBack_holds:Rows.FnRewriteBackSaid :=
 OpenClaim.holds_of_wide 5 Try.f5 rfl rfl rfl rfl rfl rfl rfl ⟨rfl,rfl,rfl,rfl,rfl⟩ rfl rfl rfl rfl rfl (by kernel_rfl) Try.func5 (by kernel_rfl)
  (of_decide_eq_true (by kernel_rfl)) (by unfold Func.isWrapper;first|(rw[if_pos (by decide +kernel)];kernel_rfl)|(rw[if_neg (by decide +kernel)];exact⟨rfl,rfl⟩))
  (fun os started H enc _=>fnRewriteBack_lifted os started H enc)
#print axioms fnRewriteBack_holds
end Go.Proofs.Ytfanhfcamblghaa
