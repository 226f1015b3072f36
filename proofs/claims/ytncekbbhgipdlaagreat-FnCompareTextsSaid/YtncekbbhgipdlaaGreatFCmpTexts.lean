/-
  FnCompareTexts: for all arguments the law answers true, and each argument reads as it did.
  No condition.
-/
import Derived.Test.YtncekbbhgipdlaaGreatRows
import Derived.Test.YtncekbbhgipdlaaGreatPc22Ry
set_option maxRecDepth 100000
namespace Go.Proofs.YtncekbbhgipdlaaGreat
open Go.ChangeShapes Go.WideShapes Go.ChangeAt Go.RowKit Go.Joins
theorem fnCompareTexts_lifted (os:Os) (D:os.Started) (H:Type) (enc:TypeId × Value→H) :
  ReturnsInHanded {} Tryz.checked os 6 .any (Rows.fnCompareTextsSpec.pre6 enc Tryz.prog Tryz.f6 Rows.fnCompareTextsRow.domain false) (Rows.fnCompareTextsSpec.post enc Tryz.prog Tryz.f6 false true false false):=by
 refine returnsInHanded_of_change (C:=Tryz.checked) Tryz.own D (by kernel_rfl) Tryz.func6
  (ChangeSpec.witness6 (enc:=enc) (C:=Tryz.checked) false ⟨#[],#[.slice none 0 0],[]⟩ 8 (by kernel_rfl) (by kernel_rfl) (by kernel_rfl) (by kernel_rfl)) ?_
 intro W I args ds gs J B N _ _;have E:∀ (j:Nat) t v,Tryz.f6.params[j]? = some t→args[j]? = some v→Value.okWide Tryz.prog W .any I t v:=B;have F:=N;obtain⟨p,q,G,R,rfl,_,_⟩:=N;have L:DataW.TrodAll enc Tryz.prog W 0 (fun _=>true) true Tryz.f6.params.toList args.toList ds p:=G;rw[Tryz.params6] at L E;obtain⟨P,V,rfl,rfl,h0⟩:=trodAll_one L;obtain⟨rfl,rfl⟩:=trodVars_none R;have hlt:∀ x∈p,x.block<W.heap.size:=fun x hx=>by have:=F.lt x;simp only[List.append_nil] at this;exact this (by simpa using hx)
 obtain⟨a0,Q,O,M⟩:=okWide_slice Tryz.underlying25 (E 0 _ P rfl rfl);obtain⟨T,S⟩:=Zlh h0 (by rw[M];rfl);clear G B L;simp only[List.append_nil] at F;refine(ZjL T P W S).mono fun e U ⟨he,hb⟩ => ?_
 subst he;refine⟨_,rfl,_,_,_,[],p,[],F,trodAll_mk1 (shut_bool Tryz.underlying4 _),?_,rfl,hb.frame _,fun h=>by cases h⟩;exact trodAll_mk1 (Below.trod Tryz.laidOut Tryz.recLBytes Tryz.rowLBytes h0 hb (fun x hx=>hlt x (by simp[hx])))
theorem fnCompareTexts_holds:Rows.FnCompareTextsSaid :=
 OpenClaim.holds_of_wide 6 Tryz.f6 rfl rfl rfl rfl rfl rfl rfl ⟨rfl,rfl,rfl,rfl,rfl⟩ rfl rfl rfl rfl rfl (by kernel_rfl) Tryz.func6 (by kernel_rfl)
  (of_decide_eq_true (by kernel_rfl)) (by unfold Func.isWrapper;first|(rw[if_pos (by decide +kernel)];kernel_rfl)|(rw[if_neg (by decide +kernel)];exact⟨rfl,rfl⟩))
  (fun os B H enc _=>fnCompareTexts_lifted os B H enc)
#print axioms fnCompareTexts_holds
end Go.Proofs.YtncekbbhgipdlaaGreat
