/-
  A drawn automaton as one thing in memory: what reads as it, whatever its parts lie in.
  No condition.
-/
import Derived.Test.YtehmjmjedopkkaaGreatPn05Cp
namespace Go.Proofs.YtehmjmjedopkkaaGreat
open Go.RowKit
theorem Sl.keptJ {B B':Nat} {w w':World} {v:Value} {n size:Nat} {cs:List Value} (h:Sl B w v n size cs) (hB:B'≤B) (hs:w.heap.size≤w'.heap.size) (hk:∀ k,B≤k→k<w.heap.size→w'.heap[k]? = w.heap[k]?):Sl B' w' v n size cs:=by obtain⟨hl,a,cap,hv,h1,h2,h3⟩:=h;refine⟨hl,a,cap,hv,h1,h2,fun hn => ?_⟩;obtain⟨b,off,ha,hb,hlt,hc⟩:=h3 hn;refine⟨b,off,ha,by omega,by omega,fun j hj => ?_⟩;rw[← hc j hj];exact World.cell?_of_block (hk b hb hlt)
theorem Sl.drop1 {B:Nat} {w:World} {b off n cap:Nat} {cs:List Value} (h:Sl B w (.slice (some ⟨b,off,none⟩) n cap) n 1 cs) (hn:0<n):Sl B w (.slice (some ⟨b,off+1,none⟩) (n-1) (cap-1)) (n-1) 1 (cs.drop 1):=by obtain⟨hl,a',cap',hv,h1,h2,h3⟩:=h;simp only[Value.slice.injEq] at hv;obtain⟨rfl,-,rfl⟩:=hv;refine⟨by rw[List.length_drop];omega,_,_,rfl,by omega,by omega,fun hn0 => ?_⟩;obtain⟨b',off',ha,hb,hlt,hc⟩:=h3 (by omega);simp only[Option.some.injEq,Addr.mk.injEq,and_true] at ha;obtain⟨rfl,rfl⟩:=ha;refine⟨b,off+1,rfl,hb,hlt,fun j hj => ?_⟩;rw[show off+1+j=off+(1+j) by omega,hc _ (by omega),List.getElem?_drop]
def DfaE (w w':World):Ent:=⟨fun k=>w.heap.size≤k∧k<w'.heap.size,fun u=>∀ k,w.heap.size≤k→k<w'.heap.size→u.heap[k]? = w'.heap[k]?,fun _ _ h hk k h1 h2=>(hk k ⟨h1,h2⟩).trans (h k h1 h2)⟩
theorem St.dfaE {w0 w w':World} {L:List Ent} (h:St w0 w L) (hb:Below w.heap.size w w'):St w0 w' (L++[DfaE w w']):=h.add hb _ (fun _ _ _=>rfl) fun _ hk=>hk
structure DfaH (E:Ent) (v1 v2:Value) (vs:List Value) (D:DfaD):Prop where
 rd:∀ w,E.holds w→(∀ k,E.foot k→k<w.heap.size)→Sl 0 w v1 D.next.length 1 vs∧(∀ i,i<D.next.length→Ints 0 w (vs.getD i undef) (D.next.getD i []))∧Bools 0 w v2 D.ends
theorem DfaH.at {w0 w:World} {L:List Ent} {E:Ent} {v1 v2:Value} {vs:List Value} {D:DfaD} (h:DfaH E v1 v2 vs D) (hS:St w0 w L) (i:Nat) (hx:L[i]? = some E):Sl 0 w v1 D.next.length 1 vs∧(∀ i,i<D.next.length→Ints 0 w (vs.getD i undef) (D.next.getD i []))∧Bools 0 w v2 D.ends :=
 h.rd w (hS.has i _ hx).1 fun k hk=>((hS.has i _ hx).2 k hk).2
theorem DfaH.r {w0 w:World} {L:List Ent} {E:Ent} {v1 v2:Value} {vs:List Value} {D:DfaD} (h:DfaH E v1 v2 vs D) (hS:St w0 w L) (i:Nat) (hx:L[i]? = some E):DfaR 0 w (.agg #[v1,v2]) D:=by obtain⟨h1,h2,h3⟩:=h.at hS i hx;exact⟨v1,v2,rfl,⟨vs,h1,h2⟩,h3⟩
theorem Zm9 {w w':World} {v1 v2:Value} {D:DfaD} (h:DfaR w.heap.size w' (.agg #[v1,v2]) D) (hn:0<D.next.length):∃ vs,DfaH (DfaE w w') v1 v2 vs D:=by
 obtain⟨_,_,hv,⟨vs,h1,h2⟩,h3⟩:=h;simp only[Value.agg.injEq,Array.mk.injEq,List.cons.injEq,and_true] at hv;obtain⟨rfl,rfl⟩:=hv;have hlt:w.heap.size<w'.heap.size:=by obtain⟨-,a,cap,-,-,-,h4⟩:=h1;obtain⟨b,off,-,h5,h6,-⟩:=h4 (by omega);omega
 refine⟨vs,⟨fun u hu hf => ?_⟩⟩;have hs:w'.heap.size≤u.heap.size:=by have:w'.heap.size-1<u.heap.size:=hf (w'.heap.size-1) (show w.heap.size≤w'.heap.size-1∧w'.heap.size-1<w'.heap.size by omega);omega
 exact⟨h1.keptJ (Nat.zero_le _) hs hu,fun i hi=>Sl.keptJ (h2 i hi) (Nat.zero_le _) hs hu,Sl.keptJ h3 (Nat.zero_le _) hs hu⟩
theorem Zm8 (es e e':Nat) (v1 v2:Value) (vs:List Value) (D:DfaD):DfaH (Ent.all [Ent.rows es e v1 vs (D.next.map intCells),Ent.row e' 1 v2 D.ends.length (boolCells D.ends)]) v1 v2 vs D:=by
 refine⟨fun w h _ => ?_⟩;have h1:(Ent.rows es e v1 vs (D.next.map intCells)).holds w:=h _ (by simp);have h2:(Ent.row e' 1 v2 D.ends.length (boolCells D.ends)).holds w:=h _ (by simp);obtain⟨p1,p2,-⟩:=h1;rw[List.length_map] at p1 p2;refine⟨Sl.mono ((Zaa p1).sl (by omega)) (Nat.zero_le _),fun i hi => ?_,Sl.mono ((Zaa h2).sl (by omega)) (Nat.zero_le _)⟩;have:=p2 i hi;have e1:(D.next.map intCells).getD i []=intCells (D.next.getD i []):=by simp[hi]
 rw[e1] at this;have h3:=(Zaa this).sl (by omega);rw[show(intCells (D.next.getD i [])).length=(D.next.getD i []).length by simp[intCells]] at h3;exact Sl.mono h3 (Nat.zero_le _)
theorem DfaH.tailE {E:Ent} {v1:Value} {b o n c:Nat} {vs:List Value} {D:DfaD} (h:DfaH E v1 (.slice (some ⟨b,o,none⟩) n c) vs D) (hn:n=D.ends.length) (h0:0<n):DfaH E v1 (.slice (some ⟨b,o+1,none⟩) (n-1) (c-1)) vs ⟨D.next,D.ends.drop 1⟩:=by subst hn;refine⟨fun w h1 h2 => ?_⟩;obtain⟨p1,p2,p3⟩:=h.rd w h1 h2;refine⟨p1,p2,?_⟩;have h4:=Sl.drop1 p3 h0;show Sl 0 w _ (D.ends.drop 1).length 1 (boolCells (D.ends.drop 1));rw[List.length_drop,show boolCells (D.ends.drop 1)=(boolCells D.ends).drop 1 by simp[boolCells]];exact h4
theorem DfaH.noE {E:Ent} {v1 v2:Value} {a:Option Addr} {vs:List Value} {D:DfaD} (h:DfaH E v1 v2 vs D):DfaH E v1 (.slice a 0 0) vs ⟨D.next,[]⟩ :=
 ⟨fun w h1 h2=>⟨(h.rd w h1 h2).1,(h.rd w h1 h2).2.1,⟨rfl,a,0,rfl,Nat.le_refl _,Nat.zero_le _,fun h=>absurd h (by simp)⟩⟩⟩
theorem DfaH.one {E:Ent} {v1 v2:Value} {vs:List Value} {D:DfaD} (h:DfaH E v1 v2 vs D) {es e m:Nat} {v rv:Value} {row:List Int} (hm:m=row.length):DfaH (Ent.all [E,Ent.row es 1 v 1 [rv],Ent.row e 1 rv m (intCells row)]) v v2 [rv] ⟨[row],D.ends⟩:=by
 subst hm;refine⟨fun w h1 h2 => ?_⟩;have g1:E.holds w:=h1 _ (by simp);have g2:(Ent.row es 1 v 1 [rv]).holds w:=h1 _ (by simp);have g3:(Ent.row e 1 rv row.length (intCells row)).holds w:=h1 _ (by simp);obtain⟨-,-,p3⟩:=h.rd w g1 fun k hk=>h2 k ⟨E,by simp,hk⟩
 refine⟨Sl.mono ((Zaa g2).sl (by omega)) (Nat.zero_le _),fun i hi => ?_,p3⟩;have hi:i<1:=hi;obtain rfl:i=0:=by omega
 exact Sl.mono ((Zaa g3).sl (by omega)) (Nat.zero_le _)
theorem Zox (w:World) (a:Option Addr):Sl 0 w (.slice a 0 0) 0 1 []:=⟨rfl,a,0,rfl,Nat.le_refl _,Nat.zero_le _,fun h=>absurd h (by simp)⟩
theorem DfaH.head {E:Ent} {v1 v2:Value} {vs:List Value} {D:DfaD} (h:DfaH E v1 v2 vs D) (h0:0<D.next.length) {es e n m:Nat} {v rv:Value} {row:List Int} (hn:n=1+(D.next.length-1)) (hm:m=row.length):DfaH (Ent.all [E,Ent.row es 1 v n (rv::vs.drop 1),Ent.row e 1 rv m (intCells row)]) v v2 (rv::vs.drop 1) ⟨row::D.next.drop 1,D.ends⟩:=by
 subst hm;refine⟨fun w h1 h2 => ?_⟩;have g1:E.holds w:=h1 _ (by simp);have g2:(Ent.row es 1 v n (rv::vs.drop 1)).holds w:=h1 _ (by simp);have g3:(Ent.row e 1 rv row.length (intCells row)).holds w:=h1 _ (by simp);obtain⟨p1,p2,p3⟩:=h.rd w g1 fun k hk=>h2 k ⟨E,by simp,hk⟩
 have hl:(row::D.next.drop 1).length=n:=by simp;omega
 refine⟨?_,fun i hi => ?_,p3⟩
 ·show Sl 0 w v (row::D.next.drop 1).length 1 _;rw[hl];exact Sl.mono ((Zaa g2).sl (by omega)) (Nat.zero_le _)
 cases i with
 | zero=>exact Sl.mono ((Zaa g3).sl (by omega)) (Nat.zero_le _)
 | succ i =>
  have hi:i+1<(row::D.next.drop 1).length:=hi;simp only[List.length_cons,List.length_drop] at hi;have:=p2 (i+1) (by omega);have e1:(rv::vs.drop 1).getD (i+1) undef=vs.getD (i+1) undef:=by simp
  have e2:(row::D.next.drop 1).getD (i+1) []=D.next.getD (i+1) []:=by simp
  show Ints 0 w ((rv::vs.drop 1).getD (i+1) undef) ((row::D.next.drop 1).getD (i+1) []);rw[e1,e2];exact this
theorem Zm7:DfaH Ent.nil (.slice none 0 0) (.slice none 0 0) [] ⟨[],[]⟩ :=
 ⟨fun _ _ _=>⟨⟨rfl,none,0,rfl,Nat.le_refl _,Nat.zero_le _,fun h=>absurd h (by simp)⟩,fun i hi=>absurd hi (by simp),⟨rfl,none,0,rfl,Nat.le_refl _,Nat.zero_le _,fun h=>absurd h (by simp)⟩⟩⟩
structure SmallD (D:DfaD):Prop where
 n:D.next.length≤40
 e:D.ends.length≤40
 r:∀ x∈D.next,x.length≤3
theorem Zfy {D:DfaD} (h:Zaf D.next D.ends=true):SmallD D:=by have hl:=Zad h;refine⟨hl.2.1,by omega,fun x hx => ?_⟩;obtain⟨i,hi,rfl⟩:=List.getElem_of_mem hx;have:=(ZaG h hi).1;rw[Za4 hi] at this;omega
end Go.Proofs.YtehmjmjedopkkaaGreat
