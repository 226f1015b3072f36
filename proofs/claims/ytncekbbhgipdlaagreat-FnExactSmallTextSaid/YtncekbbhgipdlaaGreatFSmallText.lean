/-
  FnExactSmallText: for all arguments the law answers true, and each argument reads as it did.
  No condition.
-/
import Derived.Test.YtncekbbhgipdlaaGreatRows
import Derived.Test.YtncekbbhgipdlaaGreatPs37Ry
set_option maxRecDepth 100000
namespace Go.Proofs.YtncekbbhgipdlaaGreat
open Go.ChangeShapes Go.WideShapes Go.ChangeAt Go.RowKit Go.Joins
theorem txB_all (b:ByteArray):∃ s:List Nat,isT s∧txB s=b:=by
 refine⟨b.data.toList.map UInt8.toNat,fun x hx => ?_,?_⟩
 ·obtain⟨u,-,rfl⟩:=List.mem_map.1 hx;exact u.toNat_lt
 unfold txB;rw[List.map_map,show(UInt8.ofNat ∘ UInt8.toNat)=id from funext fun u=>UInt8.ofNat_toNat];simp
theorem Tryz.recLStr:Tryz.prog.readableRec 9 = true:=by kernel_rfl
theorem Tryz.rowLStr:(9:TypeId)<Tryz.prog.types.size:=of_decide_eq_true (by kernel_rfl)
theorem Tryz.recLInt:Tryz.prog.readableRec 3 = true:=by kernel_rfl
theorem Tryz.rowLInt:(3:TypeId)<Tryz.prog.types.size:=of_decide_eq_true (by kernel_rfl)
theorem fnExactSmallText_lifted (os:Os) (started:os.Started) (H:Type) (enc:TypeId × Value→H) :
  ReturnsInHanded {} Tryz.checked os 3 .any (Rows.fnExactSmallTextSpec.pre6 enc Tryz.prog Tryz.f3 Rows.fnExactSmallTextRow.domain false) (Rows.fnExactSmallTextSpec.post enc Tryz.prog Tryz.f3 false true false false):=by
 refine returnsInHanded_of_change (C:=Tryz.checked) Tryz.own started (by kernel_rfl) Tryz.func3
  (ChangeSpec.witness6 (enc:=enc) (C:=Tryz.checked) false ⟨#[],#[.string ⟨#[]⟩],[]⟩ 8 (by kernel_rfl) (by kernel_rfl) (by kernel_rfl) (by kernel_rfl)) ?_
 intro W base args ds gs before hval0 hW _ _;have hval:∀ (j:Nat) t v,Tryz.f3.params[j]? = some t→args[j]? = some v→Value.okWide Tryz.prog W .any base t v:=hval0;have hW':=hW;obtain⟨p,q,hA0,hV,rfl,_,_⟩:=hW;have hA:DataW.TrodAll enc Tryz.prog W 0 (fun _=>true) true Tryz.f3.params.toList args.toList ds p:=hA0;rw[Tryz.params3] at hA hval;obtain⟨v0,d0,rfl,rfl,h0⟩:=trodAll_one hA;obtain⟨rfl,rfl⟩:=trodVars_none hV;have hlt:∀ x∈p,x.block<W.heap.size:=fun x hx=>by have:=hW'.lt x;simp only[List.append_nil] at this;exact this (by simpa using hx)
 obtain⟨b0,hv0⟩:=okWide_string Tryz.underlying9 (hval 0 _ v0 rfl rfl);obtain⟨D0,R0,hs0⟩:=txB_all b0;subst hs0 hv0;clear hA0 hval0 hA;simp only[List.append_nil] at hW';refine(Zd8 D0  W R0).mono fun e W' ⟨he,hb⟩ => ?_
 subst he;refine⟨_,rfl,_,_,_,[],p,[],hW',trodAll_mk1 (shut_bool Tryz.underlying4 _),?_,rfl,hb.frame _,fun h=>by cases h⟩;exact trodAll_mk1 (Below.trod Tryz.laidOut Tryz.recLStr Tryz.rowLStr h0 hb (fun x hx=>hlt x (by simp[hx])))
theorem fnExactSmallText_holds:Rows.FnExactSmallTextSaid :=
 OpenClaim.holds_of_wide 3 Tryz.f3 rfl rfl rfl rfl rfl rfl rfl ⟨rfl,rfl,rfl,rfl,rfl⟩ rfl rfl rfl rfl rfl (by kernel_rfl) Tryz.func3 (by kernel_rfl)
  (of_decide_eq_true (by kernel_rfl)) (by unfold Func.isWrapper;first|(rw[if_pos (by decide +kernel)];kernel_rfl)|(rw[if_neg (by decide +kernel)];exact⟨rfl,rfl⟩))
  (fun os started H enc _=>fnExactSmallText_lifted os started H enc)
#print axioms fnExactSmallText_holds
end Go.Proofs.YtncekbbhgipdlaaGreat
