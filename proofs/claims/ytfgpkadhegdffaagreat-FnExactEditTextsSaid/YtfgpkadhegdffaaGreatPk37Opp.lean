/-
  Where the operands of a tree's list begin, plain.
  No condition: this text speaks of no program.
-/
import Derived.Test.YtfgpkadhegdffaaGreatPk25Ivs
namespace Go.Proofs.YtfgpkadhegdffaaGreat
theorem getD_mid {xs ys:List (Int × Int)} {p:Int × Int}:(xs ++ p :: ys).getD xs.length (0,0) = p:=by simp
theorem stk_leaf {es pre suf:List (Int × Int)} {p:Int × Int} (he:es = pre ++ p :: suf) (hp:pNeeds p = 0):stkB es (pre.length+1) = stkB es pre.length ++ [pre.length]:=by
 have h:es.getD pre.length (0,0) = p:=by rw [he];exact getD_mid
 rw [stkB_succ]
 unfold begB
 rw [h,hp]
 simp
theorem stk_one {es pre xs suf:List (Int × Int)} {p:Int × Int} (he:es = pre ++ xs ++ p :: suf) (hp:pNeeds p = 1) (hx:stkB es (pre.length+xs.length) = stkB es pre.length ++ [pre.length]):stkB es (pre.length+(xs.length+1)) = stkB es pre.length ++ [pre.length]:=by
 have h:es.getD (pre.length+xs.length) (0,0) = p:=by
  rw [he,← List.length_append]
  exact getD_mid
 rw [← Nat.add_assoc,stkB_succ]
 unfold begB
 rw [h,hp,hx]
 simp
theorem stk_two {es pre xs ys suf:List (Int × Int)} {p:Int × Int} (he:es = pre ++ xs ++ ys ++ p :: suf) (hp:pNeeds p = 2) (hx:stkB es (pre.length+xs.length) = stkB es pre.length ++ [pre.length]) (hy:stkB es (pre.length+xs.length+ys.length) = stkB es (pre.length+xs.length) ++ [pre.length+xs.length]) :
  stkB es (pre.length+(xs.length+(ys.length+1))) = stkB es pre.length ++ [pre.length]:=by
 have h:es.getD (pre.length+xs.length+ys.length) (0,0) = p:=by
  rw [he,← List.length_append,← List.length_append]
  exact getD_mid
 rw [show pre.length+(xs.length+(ys.length+1)) = pre.length+xs.length+ys.length+1 by omega,stkB_succ]
 unfold begB
 rw [h,hp,hy,hx]
 simp
theorem stk_post:∀ (t:Ex) (es pre suf:List (Int × Int)),es = pre ++ t.post ++ suf → stkB es (pre.length+t.post.length) = stkB es pre.length ++ [pre.length]:=by
 intro t
 induction t with
 | zero => intro es pre suf he;exact stk_leaf (p:=(1,0)) (suf:=suf) (by rw [he];simp [Ex.post]) pn_leaf1
 | one => intro es pre suf he;exact stk_leaf (p:=(2,0)) (suf:=suf) (by rw [he];simp [Ex.post]) pn_leaf2
 | ltr c => intro es pre suf he;exact stk_leaf (p:=(3,(c.val:Int))) (suf:=suf) (by rw [he];simp [Ex.post]) (pn_leaf3 c)
 | neg a ha =>
  intro es pre suf he
  have h1:=ha es pre ((7,0) :: suf) (by rw [he];simp [Ex.post])
  have h2:=stk_one (xs:=a.post) (p:=(7,0)) (suf:=suf) (by rw [he];simp [Ex.post]) pn_neg h1
  simpa [Ex.post] using h2
 | star a ha =>
  intro es pre suf he
  have h1:=ha es pre ((8,0) :: suf) (by rw [he];simp [Ex.post])
  have h2:=stk_one (xs:=a.post) (p:=(8,0)) (suf:=suf) (by rw [he];simp [Ex.post]) pn_star h1
  simpa [Ex.post] using h2
 | join a b ha hb =>
  intro es pre suf he
  have h1:=ha es pre (b.post ++ (4,0) :: suf) (by rw [he];simp [Ex.post])
  have h2:=hb es (pre ++ a.post) ((4,0) :: suf) (by rw [he];simp [Ex.post])
  rw [List.length_append] at h2
  have h3:=stk_two (xs:=a.post) (ys:=b.post) (p:=(4,0)) (suf:=suf) (by rw [he];simp [Ex.post]) pn_join h1 h2
  simpa [Ex.post] using h3
 | alt a b ha hb =>
  intro es pre suf he
  have h1:=ha es pre (b.post ++ (5,0) :: suf) (by rw [he];simp [Ex.post])
  have h2:=hb es (pre ++ a.post) ((5,0) :: suf) (by rw [he];simp [Ex.post])
  rw [List.length_append] at h2
  have h3:=stk_two (xs:=a.post) (ys:=b.post) (p:=(5,0)) (suf:=suf) (by rw [he];simp [Ex.post]) pn_alt h1 h2
  simpa [Ex.post] using h3
 | both a b ha hb =>
  intro es pre suf he
  have h1:=ha es pre (b.post ++ (6,0) :: suf) (by rw [he];simp [Ex.post])
  have h2:=hb es (pre ++ a.post) ((6,0) :: suf) (by rw [he];simp [Ex.post])
  rw [List.length_append] at h2
  have h3:=stk_two (xs:=a.post) (ys:=b.post) (p:=(6,0)) (suf:=suf) (by rw [he];simp [Ex.post]) pn_both h1 h2
  simpa [Ex.post] using h3
theorem beg_two (a b:Ex) (p:Int × Int):begB (a.post ++ b.post ++ [p]) (a.post.length+b.post.length - 1) = a.post.length:=by
 have h2:=stk_post b (a.post ++ b.post ++ [p]) a.post [p] rfl
 have hb:=post_pos b
 rw [show a.post.length+b.post.length = (a.post.length+b.post.length - 1)+1 by omega,stkB_succ] at h2
 have:=List.append_inj_right' h2 rfl
 simpa using this
end Go.Proofs.YtfgpkadhegdffaaGreat
