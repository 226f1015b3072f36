/-
  FnExactEditTexts: for all arguments the law answers true, and each argument reads as it did.
  No condition.
-/
import Derived.Test.YtfgpkadhegdffaaGreatRows
import Derived.Test.YtfgpkadhegdffaaGreatPk47LEditTexts
set_option maxRecDepth 100000
namespace Go.Proofs.YtfgpkadhegdffaaGreat
open Go.ChangeShapes Go.WideShapes Go.ChangeAt Go.RowKit Go.Joins
theorem txB_all (b:ByteArray):∃ s:List Nat,isT s ∧ txB s = b:=by
 refine ⟨b.data.toList.map UInt8.toNat,fun x hx => ?_,?_⟩
 ·obtain ⟨u,-,rfl⟩:=List.mem_map.1 hx
  exact u.toNat_lt
 ·unfold txB
  rw [List.map_map,show (UInt8.ofNat ∘ UInt8.toNat) = id from funext fun u => UInt8.ofNat_toNat]
  simp
theorem Tryz.recLStr:Tryz.prog.readableRec 9 = true:=by kernel_rfl
theorem Tryz.rowLStr:(9:TypeId) < Tryz.prog.types.size:=of_decide_eq_true (by kernel_rfl)
theorem Tryz.recLInt:Tryz.prog.readableRec 3 = true:=by kernel_rfl
theorem Tryz.rowLInt:(3:TypeId) < Tryz.prog.types.size:=of_decide_eq_true (by kernel_rfl)
theorem fnExactEditTexts_lifted (os:Os) (started:os.Started) (H:Type) (enc:TypeId × Value → H) :
  ReturnsInHanded {} Tryz.checked os 4 .any (Rows.fnExactEditTextsSpec.pre6 enc Tryz.prog Tryz.f4 Rows.fnExactEditTextsRow.domain false) (Rows.fnExactEditTextsSpec.post enc Tryz.prog Tryz.f4 false true false false):=by
 refine returnsInHanded_of_change (C:=Tryz.checked) Tryz.own started (by kernel_rfl) Tryz.func4
  (ChangeSpec.witness6 (enc:=enc) (C:=Tryz.checked) false ⟨#[],#[.string ⟨#[]⟩,.string ⟨#[]⟩,.int .i64 0],[]⟩ 8 (by kernel_rfl) (by kernel_rfl) (by kernel_rfl) (by kernel_rfl)) ?_
 intro W base args ds gs before hval0 hW _ _
 have hval:∀ (j:Nat) t v,Tryz.f4.params[j]? = some t → args[j]? = some v → Value.okWide Tryz.prog W .any base t v:=hval0
 have hW':=hW
 obtain ⟨p,q,hA0,hV,rfl,_,_⟩:=hW
 have hA:DataW.TrodAll enc Tryz.prog W 0 (fun _ => true) true Tryz.f4.params.toList args.toList ds p:=hA0
 rw [Tryz.params4] at hA hval
 obtain ⟨v0,v1,v2,d0,d1,d2,p0,p1,p2,rfl,rfl,rfl,h0,h1,h2⟩:=trodAll_three hA
 obtain ⟨rfl,rfl⟩:=trodVars_none hV
 have hlt:∀ x ∈ p0 ++ (p1 ++ p2),x.block < W.heap.size:=fun x hx => by
  have:=hW'.lt x
  simp only [List.append_nil] at this
  exact this (by simpa using hx)
 obtain ⟨b0,hv0⟩:=okWide_string Tryz.underlying9 (hval 0 _ v0 rfl rfl)
 obtain ⟨D0,R0,hs0⟩:=txB_all b0
 subst hs0 hv0
 obtain ⟨b1,hv1⟩:=okWide_string Tryz.underlying9 (hval 1 _ v1 rfl rfl)
 obtain ⟨D1,R1,hs1⟩:=txB_all b1
 subst hs1 hv1
 obtain ⟨D2,hv2⟩:=okWide_int Tryz.underlying3 (hval 2 _ v2 rfl rfl)
 subst hv2
 clear hA0 hval0 hA
 simp only [List.append_nil] at hW'
 refine (exactEditTexts_walk D0 D1 D2  W R0 R1).mono fun e W' ⟨he,hb⟩ => ?_
 subst he
 refine ⟨_,rfl,_,_,_,[],p0 ++ (p1 ++ p2),[],hW',trodAll_mk1 (shut_bool Tryz.underlying4 _),?_,rfl,hb.frame _,fun h => by cases h⟩
 exact trodAll_mk3 (Below.trod Tryz.laidOut Tryz.recLStr Tryz.rowLStr h0 hb (fun x hx => hlt x (by simp [hx]))) (Below.trod Tryz.laidOut Tryz.recLStr Tryz.rowLStr h1 hb (fun x hx => hlt x (by simp [hx]))) (Below.trod Tryz.laidOut Tryz.recLInt Tryz.rowLInt h2 hb (fun x hx => hlt x (by simp [hx])))
theorem fnExactEditTexts_holds:Rows.FnExactEditTextsSaid :=
 OpenClaim.holds_of_wide 4 Tryz.f4 rfl rfl rfl rfl rfl rfl rfl ⟨rfl,rfl,rfl,rfl,rfl⟩ rfl rfl rfl rfl rfl (by kernel_rfl) Tryz.func4 (by kernel_rfl)
  (of_decide_eq_true (by kernel_rfl)) (by unfold Func.isWrapper;first | (rw [if_pos (by decide +kernel)];kernel_rfl) | (rw [if_neg (by decide +kernel)];exact ⟨rfl,rfl⟩))
  (fun os started H enc _ => fnExactEditTexts_lifted os started H enc)
#print axioms fnExactEditTexts_holds
end Go.Proofs.YtfgpkadhegdffaaGreat
