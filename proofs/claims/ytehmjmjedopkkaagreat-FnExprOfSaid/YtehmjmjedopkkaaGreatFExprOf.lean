/-
  FnExprOf: for all arguments the law answers true, and each argument reads as it did.
  No condition.
-/
import Derived.Test.YtehmjmjedopkkaaGreatRows
import Derived.Test.YtehmjmjedopkkaaGreatPo36LExprOf
import Derived.Test.YtehmjmjedopkkaaGreatPo37Ry
set_option maxRecDepth 100000
namespace Go.Proofs.YtehmjmjedopkkaaGreat
open Go.ChangeShapes Go.WideShapes Go.ChangeAt Go.RowKit Go.Joins
theorem fnExprOf_lifted (os:Os) (started:os.Started) (H:Type) (enc:TypeId × Value→H) :
  ReturnsInHanded {} Tryz.checked os 4 .any (Rows.fnExprOfSpec.pre6 enc Tryz.prog Tryz.f4 Rows.fnExprOfRow.domain false) (Rows.fnExprOfSpec.post enc Tryz.prog Tryz.f4 false true false false):=by
 refine returnsInHanded_of_change (C:=Tryz.checked) Tryz.own started (by kernel_rfl) Tryz.func4
  (ChangeSpec.witness6 (enc:=enc) (C:=Tryz.checked) false ⟨#[],#[.slice none 0 0,.slice none 0 0],[]⟩ 8 (by kernel_rfl) (by kernel_rfl) (by kernel_rfl) (by kernel_rfl)) ?_
 intro W base args ds gs before hval0 hW _ _;have hval:∀ (j:Nat) t v,Tryz.f4.params[j]? = some t→args[j]? = some v→Value.okWide Tryz.prog W .any base t v:=hval0;have hW':=hW;obtain⟨p,q,hA0,hV,rfl,_,_⟩:=hW;have hA:DataW.TrodAll enc Tryz.prog W 0 (fun _=>true) true Tryz.f4.params.toList args.toList ds p:=hA0;rw[Tryz.params4] at hA hval;obtain⟨v0,v1,d0,d1,p0,p1,rfl,rfl,rfl,h0,h1⟩:=trodAll_two hA;obtain⟨rfl,rfl⟩:=trodVars_none hV;have hlt:∀ x∈p0++p1,x.block<W.heap.size:=fun x hx=>by have:=hW'.lt x;simp only[List.append_nil] at this;exact this (by simpa using hx)
 obtain⟨a0,len0,cap0,hv0⟩:=okWide_slice Tryz.underlying22 (hval 0 _ v0 rfl rfl);obtain⟨D0,R0⟩:=Zgg h0 (by rw[hv0];rfl);obtain⟨a1,len1,cap1,hv1⟩:=okWide_slice Tryz.underlying22 (hval 1 _ v1 rfl rfl);obtain⟨D1,R1⟩:=Zgg h1 (by rw[hv1];rfl);clear hA0 hval0 hA;simp only[List.append_nil] at hW';refine(ZkE D0 D1 v0 v1 W R0 R1).mono fun e W' ⟨he,hb⟩ => ?_
 subst he;refine⟨_,rfl,_,_,_,[],p0++p1,[],hW',trodAll_mk1 (shut_bool Tryz.underlying4 _),?_,rfl,hb.frame _,fun h=>by cases h⟩;exact trodAll_mk2 (Below.trod Tryz.laidOut Tryz.recLBytes Tryz.rowLBytes h0 hb (fun x hx=>hlt x (by simp[hx]))) (Below.trod Tryz.laidOut Tryz.recLBytes Tryz.rowLBytes h1 hb (fun x hx=>hlt x (by simp[hx])))
theorem fnExprOf_holds:Rows.FnExprOfSaid :=
 OpenClaim.holds_of_wide 4 Tryz.f4 rfl rfl rfl rfl rfl rfl rfl ⟨rfl,rfl,rfl,rfl,rfl⟩ rfl rfl rfl rfl rfl (by kernel_rfl) Tryz.func4 (by kernel_rfl)
  (of_decide_eq_true (by kernel_rfl)) (by unfold Func.isWrapper;first|(rw[if_pos (by decide +kernel)];kernel_rfl)|(rw[if_neg (by decide +kernel)];exact⟨rfl,rfl⟩))
  (fun os started H enc _=>fnExprOf_lifted os started H enc)
#print axioms fnExprOf_holds
end Go.Proofs.YtehmjmjedopkkaaGreat
