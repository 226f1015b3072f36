/-
  Texts of expressions, plain: what reading a text answers, by either reader.
  No condition: this text speaks of no program.
-/
import Derived.Test.YtfgpkadhegdffaaGreatPk22Su
import Derived.Test.YtfgpkadhegdffaaGreatPk33Prs
set_option maxHeartbeats 1600000
set_option maxRecDepth 100000
namespace Go.Proofs.YtfgpkadhegdffaaGreat
def stepX (p:Int × Int) (st:List Ex):Option (List Ex) :=
 if p.1 = 1 then some (.zero :: st) else if p.1 = 2 then some (.one :: st) else if p.1 = 3 then some (.ltr (Fin.ofNat 3 p.2.toNat) :: st)
 else if p.1 = 7 then (match st with | a :: st => some (.neg a :: st) | [] => none)
 else if p.1 = 8 then (match st with | a :: st => some (.star a :: st) | [] => none)
 else match st with
  | b :: a :: st => if p.1 = 4 then some (.join a b :: st) else if p.1 = 5 then some (.alt a b :: st) else some (.both a b :: st)
  | _ => none
def buildX:List (Int × Int) → List Ex → Option (List Ex)
 | [],st => some st
 | p :: r,st => (stepX p st).bind (buildX r)
theorem build_post:∀ (t:Ex) (r:List (Int × Int)) (st:List Ex),buildX (t.post ++ r) st = buildX r (t :: st):=by
 intro t
 induction t with
 | zero => intro r st;rfl
 | one => intro r st;rfl
 | ltr c =>
  intro r st
  obtain ⟨c,hc⟩:=c
  obtain rfl | rfl | rfl:c = 0 ∨ c = 1 ∨ c = 2:=by omega
  all_goals rfl
 | neg a ha => intro r st;show buildX (a.post ++ [(7,0)] ++ r) st = _;rw [List.append_assoc,ha];rfl
 | star a ha => intro r st;show buildX (a.post ++ [(8,0)] ++ r) st = _;rw [List.append_assoc,ha];rfl
 | join a b ha hb => intro r st;show buildX (a.post ++ b.post ++ [(4,0)] ++ r) st = _;rw [List.append_assoc,List.append_assoc,ha,hb];rfl
 | alt a b ha hb => intro r st;show buildX (a.post ++ b.post ++ [(5,0)] ++ r) st = _;rw [List.append_assoc,List.append_assoc,ha,hb];rfl
 | both a b ha hb => intro r st;show buildX (a.post ++ b.post ++ [(6,0)] ++ r) st = _;rw [List.append_assoc,List.append_assoc,ha,hb];rfl
def treeOf (e:List (Int × Int)):Option Ex:=match buildX e [] with
 | some [t] => some t
 | _ => none
theorem treeOf_post (t:Ex):treeOf t.post = some t:=by
 have:=build_post t [] []
 rw [List.append_nil] at this
 unfold treeOf
 rw [this]
 rfl
def textL (e:List (Int × Int)):List Nat:=if exOk e = true then (match treeOf e with | some t => prE t | none => []) else []
theorem textL_no {e:List (Int × Int)} (h:exOk e = false):textL e = []:=by
 unfold textL
 rw [if_neg (by rw [h];simp)]
theorem textL_post {t:Ex} (h:t.post.length ≤ 60):textL t.post = prE t:=by
 unfold textL
 rw [if_pos (post_exOk t h),treeOf_post]
theorem textL_ok {e:List (Int × Int)} (h:exOk e = true):∃ t:Ex,t.post = e ∧ e.length ≤ 60 ∧ textL e = prE t:=by
 obtain ⟨t,rfl⟩:=parse h
 have hl:=(exOk_facts h).2.2.2
 exact ⟨t,rfl,by omega,textL_post (by omega)⟩
theorem textL_tb (e:List (Int × Int)):(∀ c ∈ textL e,isTb c) ∧ (textL e).length ≤ 240:=by
 cases h:exOk e
 ·rw [textL_no h]
  simp
 ·obtain ⟨t,rfl,hl,ht⟩:=textL_ok h
  rw [ht]
  have:=prE_len t
  exact ⟨prE_tb t,by omega⟩
def jI (c:Nat):Bool:=decide (c = 48) || decide (c = 49) || decide (c = 97) || decide (c = 98) || decide (c = 99) || decide (c = 40) || decide (c = 33)
def jS (c:Nat):Bool:=!(decide (c = 124) || decide (c = 38) || decide (c = 41) || decide (c = 42))
theorem jI_all:(∀ c,isSt c → jI c = true) ∧ ∀ c,c = 124 ∨ c = 38 ∨ c = 41 → jI c = false:=by
 constructor
 ·rintro c (rfl | rfl | rfl | rfl | rfl | rfl | rfl) <;> decide
 ·rintro c (rfl | rfl | rfl) <;> decide
theorem jS_all:(∀ c,isSt c → jS c = true) ∧ ∀ c,c = 124 ∨ c = 38 ∨ c = 41 → jS c = false:=by
 constructor
 ·rintro c (rfl | rfl | rfl | rfl | rfl | rfl | rfl) <;> decide
 ·rintro c (rfl | rfl | rfl) <;> decide
def yesR (x:PS) (s:List Nat):Prop:=x.2.2 = false ∧ x.2.1 = [] ∧ textL x.1 = s
instance (x:PS) (s:List Nat):Decidable (yesR x s):=by unfold yesR;infer_instance
def readL (s:List Nat):Option (List (Int × Int)):=if s.length ≤ 120 ∧ yesR (rdP jI (fuP 1 s) 1 s) s then some (rdP jI (fuP 1 s) 1 s).1 else none
theorem rd_nil (jx:Nat → Bool):∀ (n l:Nat),1 ≤ l → l ≤ 6 → (rdP jx n l []).2.2 = true
 | 0,_,_,_ => rfl
 | n+1,l,h1,h6 => by
  have ih:=rd_nil jx n
  unfold rdP
  split
  ·rfl
  ·split
   ·show (starP (rdP jx n 6 [])).2.2 = true
    unfold starP
    rw [if_pos (ih 6 (by omega) (by omega))]
   ·split
    ·exact ih 5 (by omega) (by omega)
    ·have:=ih (l+1) (by omega) (by omega)
     rw [this]
     cases n with
     | zero => rfl
     | succ n => rfl
theorem yesR_tree {jx:Nat → Bool} {n:Nat} {s:List Nat} (h:yesR (rdP jx n 1 s) s):∃ t:Ex,(rdP jx n 1 s).1 = t.post ∧ prE t = s ∧ t.post.length ≤ 60:=by
 obtain ⟨h1,-,h3⟩:=h
 cases he:exOk (rdP jx n 1 s).1
 ·rw [textL_no he] at h3
  subst h3
  rw [rd_nil jx n 1 (by omega) (by omega)] at h1
  cases h1
 ·obtain ⟨t,e1,e2,e3⟩:=textL_ok he
  exact ⟨t,e1.symm,by rw [← e3];exact h3,by rw [e1];exact e2⟩
theorem rd_tree {jx:Nat → Bool} (hj:(∀ c,isSt c → jx c = true) ∧ ∀ c,c = 124 ∨ c = 38 ∨ c = 41 → jx c = false) {n:Nat} {t:Ex} (hn:fuP 1 (prE t) ≤ n):rdP jx n 1 (prE t) = (t.post,[],false):=by
 have h:=rd_all hj.1 hj.2 n 1 t [] (by omega) (by omega) (by rw [List.append_nil,prB_one];exact hn) (stopz_nil 1)
 rwa [List.append_nil,prB_one] at h
theorem readL_of {t:Ex} (h:t.post.length ≤ 60) (hl:(prE t).length ≤ 120):readL (prE t) = some t.post:=by
 have h1:=rd_tree jI_all (Nat.le_refl (fuP 1 (prE t)))
 unfold readL
 rw [h1,if_pos ⟨hl,rfl,rfl,textL_post h⟩]
theorem readL_some {s:List Nat} {e:List (Int × Int)} (h:readL s = some e):∃ t:Ex,e = t.post ∧ prE t = s ∧ t.post.length ≤ 60 ∧ s.length ≤ 120:=by
 unfold readL at h
 split at h
 ·rename_i hc
  obtain ⟨t,e1,e2,e3⟩:=yesR_tree hc.2
  exact ⟨t,by rw [← Option.some.inj h,e1],e2,e3,hc.1⟩
 ·cases h
theorem readL_by {jx:Nat → Bool} (hj:(∀ c,isSt c → jx c = true) ∧ ∀ c,c = 124 ∨ c = 38 ∨ c = 41 → jx c = false) {n:Nat} {s:List Nat} (hn:fuP 1 s ≤ n) (hl:s.length ≤ 120):readL s = if yesR (rdP jx n 1 s) s then some (rdP jx n 1 s).1 else none:=by
 split
 ·rename_i h
  obtain ⟨t,e1,e2,e3⟩:=yesR_tree h
  rw [e1,← e2]
  exact readL_of e3 (by rw [e2];exact hl)
 ·rename_i h
  cases hr:readL s with
  | none => rfl
  | some e =>
   obtain ⟨t,e1,e2,e3,-⟩:=readL_some hr
   subst e2
   exact absurd (by rw [rd_tree hj hn];exact ⟨rfl,rfl,textL_post e3⟩) h
theorem readL_long {s:List Nat} (h:120 < s.length):readL s = none:=by
 unfold readL
 rw [if_neg (by omega)]
/-! How much is read. -/
def meas (R:Nat) (x:PS):Prop:=x.2.1.length ≤ R ∧ x.1.length ≤ 2 * R ∧ (x.2.2 = false → x.2.1.length < R ∧ x.1.length+1 ≤ 2 * (R - x.2.1.length))
theorem starsP_len:∀ (r:List Nat) (e:List (Int × Int)),(starsP e r).1.length+(starsP e r).2.length = e.length+r.length
 | [],_ => rfl
 | c :: r,e => by
  unfold starsP
  split
  ·have:=starsP_len r (e ++ [(8,0)])
   simp at this ⊢
   omega
  ·rfl
theorem contP_le {jx:Nat → Bool} {l:Nat} {r r1:List Nat} (h:contP jx l r = some r1):r1.length ≤ r.length:=by
 cases r with
 | nil => cases h
 | cons c r =>
  have h2:(if l = 1 ∧ c = 124 ∨ l = 2 ∧ c = 38 then some r else if l = 3 ∧ jx c = true then some (c :: r) else none) = some r1:=h
  split at h2
  ·rw [← Option.some.inj h2]
   simp
  ·split at h2
   ·rw [← Option.some.inj h2]
    exact Nat.le_refl _
   ·cases h2
theorem loop_le {rd:List Nat → PS} {jx:Nat → Bool} {l R:Nat} (hrd:∀ r:List Nat,r.length ≤ R → meas r.length (rd r)):∀ (n:Nat) (e:List (Int × Int)) (r:List Nat) (f:Bool),meas R (e,r,f) → meas R (loopP rd jx l n e r f)
 | 0,e,r,f,h => ⟨h.1,h.2.1,fun h2 => by cases h2⟩
 | n+1,e,r,f,h => by
  unfold loopP
  split
  ·exact ⟨h.1,h.2.1,fun h2 => by cases h2⟩
  ·rename_i hf
   have hf:f = false:=by simpa using hf
   subst hf
   split
   ·exact h
   ·rename_i r1 hc
    have h1:=contP_le hc
    obtain ⟨a1,a2,a3⟩:=h
    obtain ⟨a4,a5⟩:=a3 rfl
    simp only at a1 a2 a4 a5
    obtain ⟨b1,b2,b3⟩:=hrd r1 (by omega)
    refine loop_le hrd n _ _ _ ⟨by simp only;omega,by simp only [List.length_append,List.length_singleton];omega,fun h2 => ?_⟩
    obtain ⟨b4,b5⟩:=b3 h2
    simp only [List.length_append,List.length_singleton]
    omega
theorem rd_le (jx:Nat → Bool):∀ (n l:Nat) (r:List Nat),meas r.length (rdP jx n l r)
 | 0,l,r => ⟨Nat.le_refl _,Nat.zero_le _,fun h => by cases h⟩
 | n+1,l,r => by
  have ih:=rd_le jx n
  unfold rdP
  split
  ·cases r with
   | nil => exact ⟨Nat.le_refl _,Nat.zero_le _,fun h => by cases h⟩
   | cons c r1 =>
    simp only
    cases ha:atomP c with
    | some p => exact ⟨by simp,by simp;omega,fun _ => by simp⟩
    | none =>
     simp only
     split
     ·obtain ⟨b1,b2,b3⟩:=ih 1 r1
      obtain ⟨x,hx⟩:∃ x,rdP jx n 1 r1 = x:=⟨_,rfl⟩
      rw [hx] at b1 b2 b3 ⊢
      obtain ⟨e,r2,f⟩:=x
      cases f with
      | true =>
       cases r2 with
       | nil => exact ⟨by simp [brkP],by simp [brkP],fun h => by cases h⟩
       | cons c2 r2 => exact ⟨by simp [brkP] at b1 ⊢;omega,by simp [brkP],fun h => by cases h⟩
      | false =>
       cases r2 with
       | nil => exact ⟨by simp [brkP],by simp [brkP],fun h => by cases h⟩
       | cons c2 r2 =>
        obtain ⟨b4,b5⟩:=b3 rfl
        simp only [List.length_cons] at b1 b2 b4 b5
        show meas _ (if c2 = 41 then (e,r2,false) else ([],c2 :: r2,true))
        split
        ·exact ⟨by simp only [List.length_cons];omega,by simp only [List.length_cons];omega,fun _ => by simp only [List.length_cons];omega⟩
        ·exact ⟨by simp only [List.length_cons];omega,by simp,fun h => by cases h⟩
     ·exact ⟨by simp,by simp,fun h => by cases h⟩
  ·split
   ·obtain ⟨b1,b2,b3⟩:=ih 6 r
    obtain ⟨x,hx⟩:∃ x,rdP jx n 6 r = x:=⟨_,rfl⟩
    rw [hx] at b1 b2 b3 ⊢
    obtain ⟨e,r2,f⟩:=x
    unfold starP
    cases f with
    | true => exact ⟨b1,b2,fun h => by cases h⟩
    | false =>
     obtain ⟨b4,b5⟩:=b3 rfl
     have h1:=starsP_len r2 e
     have h2:=starsP_le r2 e
     simp only at b1 b2 b4 b5
     exact ⟨by simp;omega,by simp;omega,fun _ => by simp;omega⟩
   ·split
    ·cases r with
     | nil => exact ih 5 []
     | cons c r1 =>
      simp only
      split
      ·obtain ⟨b1,b2,b3⟩:=ih 4 r1
       refine ⟨by simp;omega,by simp;omega,fun h => ?_⟩
       obtain ⟨b4,b5⟩:=b3 h
       simp
       omega
      ·exact ih 5 (c :: r1)
    ·exact loop_le (fun r1 _ => ih (l+1) r1) n _ _ _ (ih (l+1) r)
/-! What is left is an end of what was there. -/
theorem starsP_suf:∀ (r:List Nat) (e:List (Int × Int)),(starsP e r).2 <:+ r
 | [],_ => List.suffix_refl _
 | c :: r,e => by
  unfold starsP
  split
  ·exact (starsP_suf r _).trans (List.suffix_cons c r)
  ·exact List.suffix_refl _
theorem contP_suf {jx:Nat → Bool} {l:Nat} {r r1:List Nat} (h:contP jx l r = some r1):r1 <:+ r:=by
 cases r with
 | nil => cases h
 | cons c r =>
  have h2:(if l = 1 ∧ c = 124 ∨ l = 2 ∧ c = 38 then some r else if l = 3 ∧ jx c = true then some (c :: r) else none) = some r1:=h
  split at h2
  ·rw [← Option.some.inj h2]
   exact List.suffix_cons c r
  ·split at h2
   ·rw [← Option.some.inj h2]
    exact List.suffix_refl _
   ·cases h2
theorem loop_suf {rd:List Nat → PS} {jx:Nat → Bool} {l:Nat} (hrd:∀ r:List Nat,(rd r).2.1 <:+ r):∀ (n:Nat) (e:List (Int × Int)) (r:List Nat) (f:Bool),(loopP rd jx l n e r f).2.1 <:+ r
 | 0,_,_,_ => List.suffix_refl _
 | n+1,e,r,f => by
  unfold loopP
  split
  ·exact List.suffix_refl _
  ·split
   ·exact List.suffix_refl _
   ·rename_i r1 hc
    exact (loop_suf hrd n _ _ _).trans ((hrd r1).trans (contP_suf hc))
theorem brkP_suf (x:PS):(brkP x).2.1 <:+ x.2.1:=by
 obtain ⟨e,r,f⟩:=x
 cases f with
 | true => cases r <;> exact List.suffix_refl _
 | false =>
  cases r with
  | nil => exact List.suffix_refl _
  | cons c r =>
   show (if c = 41 then ((e,r,false):PS) else ([],c :: r,true)).2.1 <:+ c :: r
   split
   ·exact List.suffix_cons c r
   ·exact List.suffix_refl _
theorem rd_suf (jx:Nat → Bool):∀ (n l:Nat) (r:List Nat),(rdP jx n l r).2.1 <:+ r
 | 0,_,_ => List.suffix_refl _
 | n+1,l,r => by
  have ih:=rd_suf jx n
  unfold rdP
  split
  ·cases r with
   | nil => exact List.suffix_refl _
   | cons c r1 =>
    simp only
    cases ha:atomP c with
    | some p => exact List.suffix_cons c r1
    | none =>
     simp only
     split
     ·exact ((brkP_suf _).trans (ih 1 r1)).trans (List.suffix_cons c r1)
     ·exact List.suffix_cons c r1
  ·split
   ·show (starP (rdP jx n 6 r)).2.1 <:+ r
    unfold starP
    split
    ·exact ih 6 r
    ·exact (starsP_suf _ _).trans (ih 6 r)
   ·split
    ·cases r with
     | nil => exact ih 5 []
     | cons c r1 =>
      simp only
      split
      ·exact (ih 4 r1).trans (List.suffix_cons c r1)
      ·exact ih 5 (c :: r1)
    ·exact (loop_suf (ih (l+1)) n _ _ _).trans (ih (l+1) r)
theorem suf_drop {r s:List Nat} (h:r <:+ s):r = s.drop (s.length - r.length):=by
 obtain ⟨t,rfl⟩:=h
 rw [List.length_append,Nat.add_sub_cancel,List.drop_left]
end Go.Proofs.YtfgpkadhegdffaaGreat
namespace Go.Proofs.YtfgpkadhegdffaaGreat
open Go.RowKit
theorem txB_dropR (l:List Nat) (k:Nat):(txB l).extract k (txB l).size = txB (l.drop k):=by
 apply ByteArray.ext
 rw [txB_size]
 simp only [txB,ByteArray.data_extract,List.map_drop,List.extract_toArray,List.extract_eq_take_drop]
 rw [List.take_of_length_le (by simp)]
theorem cut_fromR (s:List Nat) (k:Nat) (j:Int) (hj:j = (k:Int)) (hk:k ≤ s.length):∀ w':World,(Instr.slice 9 (.string (txB s)) (some (.int .i64 j)) none none).run Tryz.prog w' = .ok (.string (txB (s.drop k))) w':=fun w' => by
 subst hj
 rw [run_slice_string_l w' 9 (txB s) Tryz.underlying9 .i64 k (by omega) (by rw [txB_size];omega),Int.toNat_natCast,txB_dropR]
theorem txB_emptyR (l:List Nat):(txB l).toList.isEmpty = l.isEmpty:=by
 rw [ByteArray.toList_eq]
 cases l <;> rfl
theorem slIndexByte_any (s:ByteArray) (c:Int) (w:World) :
  Calls Tryz.prog 148 #[.string s,.int .u8 c] w fun e w' => e = .returned (.int .i64 (Lib.indexByte s.data.toList c.toNat.toUInt8)) ∧ w = w':=by
 go_enter Tryz.func148, Tryz.ntmps148
 go_wp2
 rw [run_callFunc_extern Tryz.func170 (by kernel_rfl) (by kernel_rfl) (by kernel_rfl) (e:=Extern.BytealgIndexByte.indexByte) (by kernel_rfl),Lib.run_indexByteString]
 simp only [Result.andThen]
 rw [Oper.upon_value]
 go_wp2
 go_ret
 exact ⟨rfl,rfl⟩
theorem indexByte_any (s:ByteArray) (c:Int) (w:World) (r:Int) (hr:Lib.indexByte s.data.toList c.toNat.toUInt8 = r) :
  Calls Tryz.prog 116 #[.string s,.int .u8 c] w fun e w' => e = .returned (.int .i64 r) ∧ w = w':=by
 subst hr
 go_enter Tryz.func116, Tryz.ntmps116
 go_wp2_with (go_at_call 148;refine (slIndexByte_any _ _ _).mono ?_;rintro e w' ⟨rfl,rfl⟩)
 go_ret
 exact ⟨rfl,rfl⟩
theorem ixb_iff {c:Nat} (hc:c < 256):(0 ≤ Lib.indexByte [48,49,97,98,99,40,33] ((c:Int).toNat.toUInt8)) ↔ jI c = true:=by
 have h:∀ k:Fin 256,(0 ≤ Lib.indexByte [48,49,97,98,99,40,33] (k.val.toUInt8)) ↔ jI k.val = true:=by decide
 simpa using h ⟨c,hc⟩
def nextB (r:List Nat) (f:Bool):Nat:=if f = true then 0 else r.headD 0
theorem next_any (r:List Nat) (f:Bool) (b:Nat) (w:World) (ht:isT r) (h0:w.cell? ⟨b,0,none⟩ = some (.string (txB r))) (h1:w.cell? ⟨b,1,none⟩ = some (.bool f)) (c:Nat) (hc:nextB r f = c) :
  Calls Tryz.prog 114 #[.pointer (some ⟨b,0,none⟩)] w fun e w' => e = .returned (.int .u8 (c:Int)) ∧ w = w':=by
 subst hc
 cases f with
 | true =>
  go_enter Tryz.func114, Tryz.ntmps114
  go_wp2
  go_ret
  exact ⟨rfl,rfl⟩
 | false =>
  have he:=txB_emptyR r
  cases r with
  | nil =>
   simp only [List.isEmpty_nil] at he
   go_enter Tryz.func114, Tryz.ntmps114
   go_wp2
   go_ret
   exact ⟨rfl,rfl⟩
  | cons x r =>
   simp only [List.isEmpty_cons] at he
   have hix:=fun u => txB_index (l:=x :: r) (i:=0) (by simp) ht u
   simp only [List.getD_cons_zero,Int.ofNat_zero] at hix
   obtain ⟨s,hs⟩:∃ s,txB (x :: r) = s:=⟨_,rfl⟩
   rw [hs] at he hix h0
   have Hhs:=qh hs;clear hs
   go_enter Tryz.func114, Tryz.ntmps114
   go_wp2
   go_ret
   exact ⟨rfl,rfl⟩
end Go.Proofs.YtfgpkadhegdffaaGreat
namespace Go.Proofs.YtfgpkadhegdffaaGreat
open Go.RowKit Go.Deep Go.ChangeShapes Go.ChangeAt
section
variable {H:Type} {enc:TypeId × Value → H} {P:Program} {w:World} {held:Bool}
end
end Go.Proofs.YtfgpkadhegdffaaGreat
namespace Go.Proofs.YtfgpkadhegdffaaGreat
open Go.RowKit Go.Deep Go.ChangeShapes Go.ChangeAt
def Bytes (B:Nat) (w:World) (v:Value) (bs:List Nat):Prop:=(∀ b ∈ bs,b < 256) ∧ Sl B w v bs.length 1 (bs.map fun (b:Nat) => Value.int .u8 (b:Int))
theorem Bytes.below {B:Nat} {w w':World} {v:Value} {bs:List Nat} (h:Bytes B w v bs) (he:Below w.heap.size w w'):Bytes B w' v bs:=⟨h.1,Sl.below h.2 he⟩
section
variable {H:Type} {enc:TypeId × Value → H} {P:Program} {w:World} {held:Bool}
end
end Go.Proofs.YtfgpkadhegdffaaGreat
namespace Go.Proofs.YtfgpkadhegdffaaGreat
open Go.RowKit
end Go.Proofs.YtfgpkadhegdffaaGreat
