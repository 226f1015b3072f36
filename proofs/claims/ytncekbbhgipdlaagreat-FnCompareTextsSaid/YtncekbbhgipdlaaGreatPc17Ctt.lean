/-
  The walk over the program's operands, by the tree of the expression.
  Conditions: the expression reads as such, it has at most 60 parts.
-/
import Derived.Test.YtncekbbhgipdlaaGreatPc14Jf
import Derived.Test.YtncekbbhgipdlaaGreatPc15Cmp
import Derived.Test.YtncekbbhgipdlaaGreatPc16Opp
set_option maxHeartbeats 16000000
set_option maxRecDepth 100000
namespace Go.Proofs.YtncekbbhgipdlaaGreat
open Go.RowKit
theorem Zds {w:World} {v:Value} {pre:List (Int × Int)} {p:Int × Int} (h:Pairs 0 w v (pre++[p])):∃ b off cap,v = .slice (some ⟨b,off,none⟩) (pre.length+1) cap∧pre.length+1≤cap∧cap≤9223372036854775807∧b<w.heap.size ∧
  ∀ u,Below w.heap.size w u→u.cell? ⟨b,off+pre.length*2,none⟩=some (.int .i64 p.1)∧u.cell? ⟨b,off+pre.length*2+1,none⟩=some (.int .i64 p.2):=by
 obtain⟨a,cap,B,h1,h2,h3⟩:=h.form;obtain⟨b,off,rfl,-,hb,hc⟩:=h3 (by simp);have hl:(pre++[p]).length=pre.length+1:=by simp
 rw[hl] at B h1;obtain⟨c1,c2⟩:=hc pre.length (by simp);have e:(pre++[p]).getD pre.length (0,0)=p:=ZgP;rw[e] at c1 c2;exact⟨b,off,cap,B,h1,h2,hb,fun u hu=>⟨(bcell hu b _ hb).trans c1,(bcell hu b _ hb).trans c2⟩⟩
theorem Zsn {es:List (Int × Int)} {w:World} {e:Ending} {w':World} (hok:exOk es=true) (h:RSt es es.length w e w'):∃ g b,e = .returned (.tuple #[.slice (some ⟨g,0,none⟩) es.length es.length,.bool b])∧St w w' [Ent.row 3 1 (.slice (some ⟨g,0,none⟩) es.length es.length) es.length (intCells (clsL es.length (begB es)))]:=by
 rcases h with⟨-,g,b,he,-,hS⟩|⟨B,-⟩
 ·exact⟨g,b,he,hS⟩
 exact absurd (ZgQ.1 hok).1 B
theorem Zh2 (a b t:Ex) (k l:Int) (ht:t.post=a.post++b.post++[(k,l)]) (hk:Zag (k,l)=2) (v:Value) (w:World) (h60:t.post.length≤60) (h:Pairs 0 w v t.post) :
  Calls Tryz.prog 51 #[v] w fun e w'=>∃ g s vb,e = .returned (.slice (some ⟨g,0,none⟩) 2 2)∧St w w' [Ent.row 28 1 (.slice (some ⟨g,0,none⟩) 2 2) 2 [s,vb]]∧∀ u,Pairs 0 u v t.post→Pairs 0 u s a.post∧Pairs 0 u vb b.post:=by
 have hok:=ZaD t h60;have G:=qh (Zdg t.post v w (by omega) h);have F:=Zsc a b (k,l);rw[← ht] at F;have d:=h;rw[ht] at d;obtain⟨M,off,cap,rfl,R,aC,hb,C⟩:=Zds d;have O:(a.post++b.post).length=a.post.length+b.post.length:=by simp
 have j:=Zax a;have i:=Zax b;have L:t.post.length=a.post.length+b.post.length+1:=by rw[ht];simp;omega
 rw[O] at R C G d ⊢;have e1:(a.post++b.post++[(k,l)]).take a.post.length=a.post:=by rw[List.append_assoc,List.take_left]
 have e2:(a.post++b.post++[(k,l)]).drop a.post.length=b.post++[(k,l)]:=by rw[List.append_assoc,List.drop_left]
 have E:∀ u,Pairs 0 u (.slice (some ⟨M,off,none⟩) (a.post.length+b.post.length+1) cap) t.post→Pairs 0 u (.slice (some ⟨M,off,none⟩) a.post.length cap) a.post∧Pairs 0 u (.slice (some ⟨M,off+a.post.length*2,none⟩) b.post.length (cap-a.post.length)) b.post:=fun u hu=>by
  rw[ht] at hu;have c:=hu.take (n:=a.post.length) (by simp);have X:=hu.drop (n:=a.post.length) (by simp);rw[e1] at c;rw[e2] at X;have D:=X.take (n:=b.post.length) (by simp);rw[List.take_left] at D;refine⟨c,?_⟩;have e3:a.post.length+b.post.length+1-a.post.length=b.post.length+1:=by omega
  exact D
 obtain⟨A,Q⟩:=eI (a.post.length);obtain⟨B,P⟩:=eI (b.post.length);obtain⟨m,hm⟩:=eI (A+B);rw[← Q,← P,← hm] at L R C G F;rw[← Q,← P,← hm] at E;rw[← Q] at j;rw[← P] at i;rw[← Q,← P,← hm];have T:=G;have N:=qh C;have Y:=qh E;have aB:IntKind.i64.wrap ((m:Int)+1-1)=(m:Int):=by rw[IntWalk.i64_in _ (by omega)];omega
 have aE:IntKind.i64.wrap ((m:Int)-1)=((m-1:Nat):Int):=by rw[IntWalk.i64_in _ (by omega)];omega
 have aG:m-1<m+1:=by omega
 have aI:((m-1:Nat):Int)<(m:Int)+1:=by omega
 have H:(intCells (clsL (m+1) (begB t.post)))[m-1]? = some (.int .i64 (A:Int)):=by rw[Za6 _ (by omega),F]
 have I:=qh H;have aD:A+1≤m:=by omega
 have aH:(A:Int)≤(m:Int):=by omega
 replace hm:=qh hm;replace hk:=qh hk;have r:=qh O;clear O;have U:=qh hok;clear hok;replace F:=qh F;have S:=qh L;clear L;replace Q:=qh Q;have aJ:=qh P;clear P;have aF:=qh ht;clear ht;clear d E C e1 e2 h T H
 go_enter Tryz.func51, Tryz.ntmps51
 go_wp2_with (go_at_call 90;refine(G.o).mono ?_;rintro e w1 y;have x:=Zsn U.o y;rw[S.o] at x;obtain⟨g,bx,rfl,hS⟩:=x;have z:=hS.rcell (v:=.int .i64 (A:Int)) 0 (m-1) rfl (by omega) I.o;have HS:=qh hS;obtain⟨k2,k3⟩:=N.o _ hS.bel;clear y hS);refine(ZaN k l _ 2 hk.o (by omega)).mono ?_;rintro e w2 ⟨rfl,hb2⟩;have Z:=qh (HS.o.call hb2);have k5:=Z.o.rcell (v:=.int .i64 (A:Int)) 0 (m-1) rfl (by omega) I.o;have aA:(cap=A)=False:=by simp;omega
 have J:B=m-A:=by have:=hm.o;omega
 have D:=Y.o;rw[J] at D;have V:=qh D;have q:=qh J;clear J;clear k2 k3 z hb2 D;go_wp2
 go_region
 go_wp2;have p:=(Z.o.alloc w2.heap.size rfl #[.slice (some ⟨M,off,none⟩) A cap,.slice (some ⟨M,off+A*2,none⟩) (m-A) (cap-A)] 28).boxrow 1 2 1 [.slice (some ⟨M,off,none⟩) A cap,.slice (some ⟨M,off+A*2,none⟩) (m-A) (cap-A)] rfl rfl (by unfold maxLen;omega);go_ret;exact⟨_,_,_,rfl,p.drew.pick [1] (by decide),V.o⟩
theorem Zh1 (a b t:Ex) (k l:Int) (ht:t.post=a.post++b.post++[(k,l)]) (hk:Zag (k,l)=2) (v:Value) (w:World) (h60:t.post.length≤60) (h:Pairs 0 w v t.post) :
  Calls Tryz.prog 51 #[v] w fun e w'=>∃ g B vb,e = .returned (.slice (some ⟨g,0,none⟩) 2 2)∧St w w' [Ent.row 28 1 (.slice (some ⟨g,0,none⟩) 2 2) 2 [B,vb]]∧Pairs 0 w B a.post∧Pairs 0 w vb b.post :=
 (Zh2 a b t k l ht hk v w h60 h).mono fun _ _ ⟨g,B,vb,he,hS,h1⟩=>⟨g,B,vb,he,hS,(h1 w h).1,(h1 w h).2⟩
theorem Zh4 (a t:Ex) (k l:Int) (ht:t.post=a.post++[(k,l)]) (hk:Zag (k,l)=1) (v:Value) (w:World) (h60:t.post.length≤60) (h:Pairs 0 w v t.post) :
  Calls Tryz.prog 51 #[v] w fun e w'=>∃ g R,e = .returned (.slice (some ⟨g,0,none⟩) 1 1)∧St w w' [Ent.row 28 1 (.slice (some ⟨g,0,none⟩) 1 1) 1 [R]]∧∀ u,Pairs 0 u v t.post→Pairs 0 u R a.post:=by
 have hok:=ZaD t h60;have I:=qh (Zdg t.post v w (by omega) h);have Q:=h;rw[ht] at Q;obtain⟨J,off,cap,rfl,M,X,hb,B⟩:=Zds Q;have O:=Zax a;have D:t.post.length=a.post.length+1:=by rw[ht];simp
 have C:∀ u,Pairs 0 u (.slice (some ⟨J,off,none⟩) (a.post.length+1) cap) t.post→Pairs 0 u (.slice (some ⟨J,off,none⟩) a.post.length cap) a.post:=fun u hu=>by rw[ht] at hu;have C:=hu.take (n:=a.post.length) (by simp);rw[List.take_left] at C;exact C
 obtain⟨m,hm⟩:=eI (a.post.length);rw[← hm] at D M B I C O;rw[← hm];have E:=qh B;have P:=qh C;have b:IntKind.i64.wrap ((m:Int)+1-1)=(m:Int):=by rw[IntWalk.i64_in _ (by omega)];omega
 replace hk:=qh hk;have F:=qh hok;clear hok;have G:=qh D;clear D;have Z:=qh hm;clear hm;have V:=qh ht;clear ht;clear Q C B h
 go_enter Tryz.func51, Tryz.ntmps51
 go_wp2_with (go_at_call 90;refine(I.o).mono ?_;rintro e w1 T;have S:=Zsn F.o T;rw[G.o] at S;obtain⟨g,bx,rfl,hS⟩:=S;have c:=qh hS;obtain⟨U,Y⟩:=E.o _ hS.bel;clear T hS);refine(ZaN k l _ 1 hk.o (by omega)).mono ?_;rintro e w2 ⟨rfl,hb2⟩;have L:=qh (c.o.call hb2);have H:=(L.o.alloc w2.heap.size rfl #[.slice (some ⟨J,off,none⟩) m cap] 28).boxrow 1 1 1 [.slice (some ⟨J,off,none⟩) m cap] rfl rfl (by unfold maxLen;omega);have N:=qh H;clear U Y hb2 H;go_wp2;go_ret;exact⟨_,_,rfl,N.o.pick [1] (by decide),P.o⟩
theorem Zh3 (a t:Ex) (k l:Int) (ht:t.post=a.post++[(k,l)]) (hk:Zag (k,l)=1) (v:Value) (w:World) (h60:t.post.length≤60) (h:Pairs 0 w v t.post) :
  Calls Tryz.prog 51 #[v] w fun e w'=>∃ g B,e = .returned (.slice (some ⟨g,0,none⟩) 1 1)∧St w w' [Ent.row 28 1 (.slice (some ⟨g,0,none⟩) 1 1) 1 [B]]∧Pairs 0 w B a.post :=
 (Zh4 a t k l ht hk v w h60 h).mono fun _ _ ⟨g,B,he,hS,h1⟩=>⟨g,B,he,hS,h1 w h⟩
theorem ZdG (a b t:Ex) (k l:Int) (ht:t.post=a.post++b.post++[(k,l)]) (hk:Zag (k,l)=2) (v:Value) (w:World) (h60:t.post.length≤60) (h:Pairs 0 w v t.post) :
  Calls Tryz.prog 51 #[v] w fun e w'=>∃ g B vb,e = .returned (.slice (some ⟨g,0,none⟩) 2 2)∧St w w' [Ent.row 28 1 (.slice (some ⟨g,0,none⟩) 2 2) 2 [B,vb]]∧Pairs 0 w' B a.post∧Pairs 0 w' vb b.post :=
 (Zh1 a b t k l ht hk v w h60 h).mono fun _ _ ⟨g,B,vb,he,hS,h1,h2⟩=>⟨g,B,vb,he,hS,h1.below hS.bel,h2.below hS.bel⟩
theorem Zfa (a t:Ex) (k l:Int) (ht:t.post=a.post++[(k,l)]) (hk:Zag (k,l)=1) (v:Value) (w:World) (h60:t.post.length≤60) (h:Pairs 0 w v t.post) :
  Calls Tryz.prog 51 #[v] w fun e w'=>∃ g B,e = .returned (.slice (some ⟨g,0,none⟩) 1 1)∧St w w' [Ent.row 28 1 (.slice (some ⟨g,0,none⟩) 1 1) 1 [B]]∧Pairs 0 w' B a.post :=
 (Zh3 a t k l ht hk v w h60 h).mono fun _ _ ⟨g,B,he,hS,h1⟩=>⟨g,B,he,hS,h1.below hS.bel⟩
theorem Zik (u v:List Nat):txB u++txB v=txB (u++v):=by apply ByteArray.ext;simp[txB,ByteArray.data_append]
theorem ZiY (c:Nat) (hc:c<3):strOfNums [97+(c:Int)]=txB [97+c]:=by
 obtain rfl|rfl|rfl:c=0∨c=1∨c=2:=by omega
 all_goals rfl
theorem Zra (c:Nat) (hc:c<3) (w:World) (b cap:Nat) (h:w.cell? ⟨b,0,none⟩=some (.int .u8 (97+(c:Int)))) :
  (convert 25 9 (.slice (some ⟨b,0,none⟩) 1 cap)).run Tryz.prog w = .ok (.string (txB [97+c])) w:=by
 rw[← ZiY c hc]
 exact run_convert_bytes_arg w 25 5 Tryz.underlying25 Tryz.underlying5 b 0 1 cap [97+(c:Int)] rfl (fun i hi=>by
  obtain rfl:i=0:=by omega
  simpa using h) 9 Tryz.underlying9
theorem Znx (c:Nat) (hc:c<3):IntKind.u8.wrap (97+(c:Int))=97+(c:Int):=by
 obtain rfl|rfl|rfl:c=0∨c=1∨c=2:=by omega
 all_goals rfl
theorem ZsD (u:List Nat) (v:ByteArray) (hu:u.length≤1000) (B:v.size≤1000):(∀ w':World,(Op.stringOp .add (txB u) v).run Tryz.prog w' = .ok (.string (txB u++v)) w')∧¬ 9223372036854775807<(txB u).size+v.size:=by have h:=ZaE u;exact⟨fun w'=>run_string_add_sum w' _ _ (by omega),by omega⟩
theorem Zcc (u v:List Nat) (E D:ByteArray) (C:E=txB u) (B:D=txB v) (hl:u.length+v.length≤1000000):(∀ w':World,(Op.stringOp .add E D).run Tryz.prog w' = .ok (.string (txB (u++v))) w')∧¬ 9223372036854775807<E.size+D.size:=by subst C;subst B;have h1:=ZaE u;have h2:=ZaE v;refine⟨fun w' => ?_,by omega⟩;rw[run_string_add_sum w' _ _ (by omega),Zik]
theorem Zkp:∀ t:Ex,∃ pre p,t.post=pre++[p]∧bnK p.1=(bnd t:Int)
 | .zero=>⟨[],(1,0),rfl,rfl⟩
 | .one=>⟨[],(2,0),rfl,rfl⟩
 | .ltr c=>⟨[],(3,(c.val:Int)),rfl,rfl⟩
 | .join a b=>⟨a.post++b.post,(4,0),rfl,rfl⟩
 | .alt a b=>⟨a.post++b.post,(5,0),rfl,rfl⟩
 | .both a b=>⟨a.post++b.post,(6,0),rfl,rfl⟩
 | .neg a=>⟨a.post,(7,0),rfl,rfl⟩
 | .star a=>⟨a.post,(8,0),rfl,rfl⟩
def Zij (t:Ex):Prop:=∀ (v:Value) (w:World),Pairs 0 w v t.post→Calls Tryz.prog 22 #[v] w fun e w'=>e = .returned (.string (txB (prE t)))∧Below w.heap.size w w'
def BrkC (t:Ex):Prop:=∀ (l:Nat) (v:Value) (w:World),Pairs 0 w v t.post→Calls Tryz.prog 52 #[v,.int .i64 (l:Int)] w fun e w'=>e = .returned (.string (txB (brk l t (prE t))))∧Below w.heap.size w w'
theorem Zgo (t:Ex) (h60:t.post.length≤60) (S:Zij t):BrkC t:=by
 intro l v w h;have hx:=qh (S v w h);obtain⟨pre,p,C,hb⟩:=Zkp t;have hbd:=ZlK t;have hlen:=Zbk t;have h2:=h;rw[C] at h2;obtain⟨f,off,cap,rfl,M,X,b,D⟩:=Zds h2;have P:pre.length≤59:=by rw[C] at h60;simp at h60;omega
 obtain⟨m,hm⟩:=eI (pre.length);rw[← hm] at M D hx P;rw[← hm];have O:=D w (Below.refl _ _);obtain⟨d,c⟩:=O;obtain⟨k,x⟩:=p;have a:IntKind.i64.wrap ((m:Int)+1-1)=(m:Int):=by rw[IntWalk.i64_in _ (by omega)];omega
 obtain⟨B,J⟩:=eI (bnd t);rw[← J] at hb hbd;obtain⟨T,G⟩:=eI (prE t);rw[← G] at hx hlen ⊢;have E:brk l t T=if B<l then 40::(T++[41]) else T:=by rw[J];rfl
 rw[E];replace hb:=qh hb;replace J:=qh J;have Z:=qh hm;clear hm;have L:=qh C;clear C;have R:=qh G;clear G;have N:=qh E;clear E;clear h h2 D S;by_cases hlt:B<l
 ·have Q:(B:Int)<(l:Int):=by omega
  rw[if_pos hlt];obtain⟨I,g⟩:=Zcc [40] T { data:=#[40] } (txB T) rfl rfl (by simp;omega);obtain⟨F,Y⟩:=Zcc ([40]++T) [41] (txB ([40]++T)) { data:=#[41] } rfl rfl (by simp;omega);have e2:[40]++T++[41]=40::(T++[41]):=by simp
  rw[e2] at F;obtain⟨i,H⟩:=eJ (txB ([40]++T));rw[H] at I F Y;have V:=qh H;clear H;replace e2:=qh e2
  go_enter Tryz.func52, Tryz.ntmps52
  go_wp2_with (first
   | (go_at_call 49;refine(ZaK k _ _ hb.o).mono ?_;rintro e w' ⟨rfl,rfl⟩)
   | (go_at_call 22;refine(hx.o).mono ?_;rintro e w1 ⟨rfl,hb1⟩))
  go_ret;exact⟨rfl,hb1⟩
 have U:(l:Int)≤(B:Int):=by omega
 rw[if_neg hlt];clear hlt
 go_enter Tryz.func52, Tryz.ntmps52
 go_wp2_with (first
  | (go_at_call 49;refine(ZaK k _ _ hb.o).mono ?_;rintro e w' ⟨rfl,rfl⟩)
  | (go_at_call 22;refine(hx.o).mono ?_;rintro e w1 ⟨rfl,hb1⟩))
 go_ret;exact⟨rfl,hb1⟩
theorem ZsP (W:World):∃ C D B,True∧(Instr.mapUpdate 74 (.map (some W.heap.size)) (.int .i64 4) (.string { data:=#[] })).run Tryz.prog (W.alloc (.map #[] 0)) = .ok () C ∧
  (Instr.mapUpdate 74 (.map (some W.heap.size)) (.int .i64 5) (.string { data:=#[124] })).run Tryz.prog C = .ok () D∧(Instr.mapUpdate 74 (.map (some W.heap.size)) (.int .i64 6) (.string { data:=#[38] })).run Tryz.prog D = .ok () B ∧
  (Instr.lookup 74 (.map (some W.heap.size)) (.int .i64 4) false).run Tryz.prog B = .ok (.string { data:=#[] }) B∧Below W.heap.size W B:=by
 obtain⟨U,h4⟩:=Tryz.keyOfInt 4 (by unfold fitI;omega);obtain⟨T,h5⟩:=Tryz.keyOfInt 5 (by unfold fitI;omega);obtain⟨S,h6⟩:=Tryz.keyOfInt 6 (by unfold fitI;omega);have R:=MapL.made (P:=Tryz.prog) (kt:=3) (enc:=Zb9) W;obtain⟨C,O,L,F⟩:=R.store Tryz.lawInt ZaH Tryz.underlying74 h4 (.string { data:=#[] });obtain⟨D,H,J,G⟩:=L.store Tryz.lawInt ZaH Tryz.underlying74 h5 (.string { data:=#[124] });obtain⟨B,I,N,M⟩:=J.store Tryz.lawInt ZaH Tryz.underlying74 h6 (.string { data:=#[38] });have E:=N.lookup Tryz.lawInt ZaH Tryz.underlying74 (z:=.string { data:=#[] }) (by kernel_rfl) h4;refine⟨C,D,B,trivial,O,H,I,E,?_⟩;have hb:∀ k,some W.heap.size=some k→W.heap.size≤k:=fun k hk=>by cases hk;exact Nat.le_refl _
 have Q:=(Below.refl W.heap.size W).alloc (Nat.le_refl _) (.map #[] 0);have b1:=Q.grown F Q.size hb;have b2:=b1.grown G b1.size hb;exact b2.grown M b2.size hb
theorem ZsO (W:World):∃ C D B,True∧(Instr.mapUpdate 74 (.map (some W.heap.size)) (.int .i64 4) (.string { data:=#[] })).run Tryz.prog (W.alloc (.map #[] 0)) = .ok () C ∧
  (Instr.mapUpdate 74 (.map (some W.heap.size)) (.int .i64 5) (.string { data:=#[124] })).run Tryz.prog C = .ok () D∧(Instr.mapUpdate 74 (.map (some W.heap.size)) (.int .i64 6) (.string { data:=#[38] })).run Tryz.prog D = .ok () B ∧
  (Instr.lookup 74 (.map (some W.heap.size)) (.int .i64 5) false).run Tryz.prog B = .ok (.string { data:=#[124] }) B∧Below W.heap.size W B:=by
 obtain⟨U,h4⟩:=Tryz.keyOfInt 4 (by unfold fitI;omega);obtain⟨T,h5⟩:=Tryz.keyOfInt 5 (by unfold fitI;omega);obtain⟨S,h6⟩:=Tryz.keyOfInt 6 (by unfold fitI;omega);have R:=MapL.made (P:=Tryz.prog) (kt:=3) (enc:=Zb9) W;obtain⟨C,O,L,F⟩:=R.store Tryz.lawInt ZaH Tryz.underlying74 h4 (.string { data:=#[] });obtain⟨D,H,J,G⟩:=L.store Tryz.lawInt ZaH Tryz.underlying74 h5 (.string { data:=#[124] });obtain⟨B,I,N,M⟩:=J.store Tryz.lawInt ZaH Tryz.underlying74 h6 (.string { data:=#[38] });have E:=N.lookup Tryz.lawInt ZaH Tryz.underlying74 (z:=.string { data:=#[] }) (by kernel_rfl) h5;refine⟨C,D,B,trivial,O,H,I,E,?_⟩;have hb:∀ k,some W.heap.size=some k→W.heap.size≤k:=fun k hk=>by cases hk;exact Nat.le_refl _
 have Q:=(Below.refl W.heap.size W).alloc (Nat.le_refl _) (.map #[] 0);have b1:=Q.grown F Q.size hb;have b2:=b1.grown G b1.size hb;exact b2.grown M b2.size hb
theorem ZsN (W:World):∃ C D B,True∧(Instr.mapUpdate 74 (.map (some W.heap.size)) (.int .i64 4) (.string { data:=#[] })).run Tryz.prog (W.alloc (.map #[] 0)) = .ok () C ∧
  (Instr.mapUpdate 74 (.map (some W.heap.size)) (.int .i64 5) (.string { data:=#[124] })).run Tryz.prog C = .ok () D∧(Instr.mapUpdate 74 (.map (some W.heap.size)) (.int .i64 6) (.string { data:=#[38] })).run Tryz.prog D = .ok () B ∧
  (Instr.lookup 74 (.map (some W.heap.size)) (.int .i64 6) false).run Tryz.prog B = .ok (.string { data:=#[38] }) B∧Below W.heap.size W B:=by
 obtain⟨U,h4⟩:=Tryz.keyOfInt 4 (by unfold fitI;omega);obtain⟨T,h5⟩:=Tryz.keyOfInt 5 (by unfold fitI;omega);obtain⟨S,h6⟩:=Tryz.keyOfInt 6 (by unfold fitI;omega);have R:=MapL.made (P:=Tryz.prog) (kt:=3) (enc:=Zb9) W;obtain⟨C,O,L,F⟩:=R.store Tryz.lawInt ZaH Tryz.underlying74 h4 (.string { data:=#[] });obtain⟨D,H,J,G⟩:=L.store Tryz.lawInt ZaH Tryz.underlying74 h5 (.string { data:=#[124] });obtain⟨B,I,N,M⟩:=J.store Tryz.lawInt ZaH Tryz.underlying74 h6 (.string { data:=#[38] });have E:=N.lookup Tryz.lawInt ZaH Tryz.underlying74 (z:=.string { data:=#[] }) (by kernel_rfl) h6;refine⟨C,D,B,trivial,O,H,I,E,?_⟩;have hb:∀ k,some W.heap.size=some k→W.heap.size≤k:=fun k hk=>by cases hk;exact Nat.le_refl _
 have Q:=(Below.refl W.heap.size W).alloc (Nat.le_refl _) (.map #[] 0);have b1:=Q.grown F Q.size hb;have b2:=b1.grown G b1.size hb;exact b2.grown M b2.size hb
theorem ZnD:Zij .zero:=by
 intro v w h;obtain⟨I,off,cap,rfl,C,E,F,B⟩:=Zds (pre:=[]) (p:=(1,0)) h;simp only[List.length_nil,Nat.zero_add,Nat.zero_mul,Nat.add_zero] at C B;simp only[List.length_nil,Nat.zero_add];obtain⟨G,H⟩:=B w (Below.refl _ _);have D:=qh ((St.start w).alloc w.heap.size rfl #[.int .i64 1,.int .i64 0] 62);clear h B
 go_enter Tryz.func22, Tryz.ntmps22
 go_wp2_with (go_at_call 49;refine(ZaK 1 _ 6 rfl).mono ?_;rintro e w' ⟨rfl,rfl⟩);go_ret;exact⟨rfl,D.o.bel⟩
theorem Zp9:Zij .one:=by
 intro v w h;obtain⟨I,off,cap,rfl,C,E,F,B⟩:=Zds (pre:=[]) (p:=(2,0)) h;simp only[List.length_nil,Nat.zero_add,Nat.zero_mul,Nat.add_zero] at C B;simp only[List.length_nil,Nat.zero_add];obtain⟨G,H⟩:=B w (Below.refl _ _);have D:=qh ((St.start w).alloc w.heap.size rfl #[.int .i64 2,.int .i64 0] 62);clear h B
 go_enter Tryz.func22, Tryz.ntmps22
 go_wp2_with (go_at_call 49;refine(ZaK 2 _ 6 rfl).mono ?_;rintro e w' ⟨rfl,rfl⟩);go_ret;exact⟨rfl,D.o.bel⟩
theorem Zqb (c:Fin 3):Zij (.ltr c):=by
 intro v w h;obtain⟨c,hc⟩:=c;obtain⟨J,off,cap,rfl,D,F,G,B⟩:=Zds (pre:=[]) (p:=(3,(c:Int))) h;simp only[List.length_nil,Nat.zero_add,Nat.zero_mul,Nat.add_zero] at D B;simp only[List.length_nil,Nat.zero_add];obtain⟨H,I⟩:=B w (Below.refl _ _);have E:=qh ((St.start w).alloc w.heap.size rfl #[.int .i64 3,.int .i64 (c:Int)] 62)
 have C:txB (prE (.ltr ⟨c,hc⟩))=wdB [c]:=by
  obtain rfl|rfl|rfl:c=0∨c=1∨c=2:=by omega
  all_goals rfl
 rw[C];replace C:=qh C;clear h B
 go_enter Tryz.func22, Tryz.ntmps22
 go_wp2_with (first
  | (go_at_call 49;refine(ZaK 3 _ 6 rfl).mono ?_;rintro e w' ⟨rfl,rfl⟩)
  | (go_at_call 50;refine(ZeE c hc _).mono ?_;rintro e w' ⟨rfl,rfl⟩))
 go_ret;exact⟨rfl,E.o.bel⟩
theorem Zqa (a:Ex) (h60:(Ex.neg a).post.length≤60) (ha:BrkC a):Zij (.neg a):=by
 intro v w h;have R:=h;rw[show(Ex.neg a).post=a.post++[(7,0)] from rfl] at R;obtain⟨f,off,cap,rfl,O,V,Z,B⟩:=Zds R;have S:a.post.length≤59:=by simp[Ex.post] at h60;omega
 have H:=Zbk a;have G:=ZaT 4 a (prE a);have J:=qh ((St.start w).alloc w.heap.size rfl #[.int .i64 7,.int .i64 0] 62);have D:=fun (u:World) (hu:Below w.heap.size w u)=>Zfa a (.neg a) 7 0 rfl Zhe _ u h60 (h.below hu)
 obtain⟨m,hm⟩:=eI (a.post.length);rw[← hm] at O B S D H;rw[← hm];obtain⟨c,b⟩:=B w (Below.refl _ _);have Y:IntKind.i64.wrap ((m:Int)+1-1)=(m:Int):=by rw[IntWalk.i64_in _ (by omega)];omega
 obtain⟨A,M⟩:=eI (brk 4 a (prE a));have E:prE (.neg a)=[33]++A:=by rw[M];simp[prE]
 rw[E];have HA:=qh (fun (v:Value) (u:World) (hu:Pairs 0 u v a.post)=>by have:=ha 4 v u hu;rw[← M] at this;exact this);rw[← M] at G;obtain⟨I,i⟩:=Zcc [33] A { data:=#[33] } (txB A) rfl rfl (by simp;omega);obtain⟨j,C⟩:=eJ (txB ([33]++A));rw[C] at I;rw[C];have P:=qh D;replace C:=qh C;replace M:=qh M;have T:=qh E;clear E;have X:=qh hm;clear hm;clear h R B D ha G H
 go_enter Tryz.func22, Tryz.ntmps22
 go_wp2_with (first
  | (go_at_call 49;refine(ZaK 7 _ 4 rfl).mono ?_;rintro e w' ⟨rfl,rfl⟩)
  | (go_at_call 51;refine(P.o _ J.o.bel).mono ?_;rintro e w1 ⟨g,U,rfl,hS,N⟩;have L:=qh (show St w w1 [Ent.box w.heap.size #[.int .i64 7,.int .i64 0] 62,Ent.row 28 1 (.slice (some ⟨g,0,none⟩) 1 1) 1 [U]] from J.o.cat hS);have Q:=qh N;have d:=L.o.rcell (v:=U) 1 0 rfl (by omega) rfl;clear hS N)
  | (go_at_call 52;refine(HA.o _ _ Q.o).mono ?_;rintro e w2 ⟨rfl,hb2⟩;have F:=qh (L.o.call hb2);have r0:=F.o.cell (v:=.int .i64 7) 0 0 rfl rfl;clear hb2))
 go_ret;exact⟨rfl,F.o.bel⟩
theorem ZnE (a:Ex) (h60:(Ex.star a).post.length≤60) (ha:BrkC a):Zij (.star a):=by
 intro v w h;have R:=h;rw[show(Ex.star a).post=a.post++[(8,0)] from rfl] at R;obtain⟨f,off,cap,rfl,O,V,Z,B⟩:=Zds R;have S:a.post.length≤59:=by simp[Ex.post] at h60;omega
 have H:=Zbk a;have G:=ZaT 5 a (prE a);have J:=qh ((St.start w).alloc w.heap.size rfl #[.int .i64 8,.int .i64 0] 62);have D:=fun (u:World) (hu:Below w.heap.size w u)=>Zfa a (.star a) 8 0 rfl ZeP _ u h60 (h.below hu)
 obtain⟨m,hm⟩:=eI (a.post.length);rw[← hm] at O B S D H;rw[← hm];obtain⟨c,b⟩:=B w (Below.refl _ _);have Y:IntKind.i64.wrap ((m:Int)+1-1)=(m:Int):=by rw[IntWalk.i64_in _ (by omega)];omega
 obtain⟨A,M⟩:=eI (brk 5 a (prE a));have E:prE (.star a)=A++[42]:=by rw[M];simp[prE]
 rw[E];have HA:=qh (fun (v:Value) (u:World) (hu:Pairs 0 u v a.post)=>by have:=ha 5 v u hu;rw[← M] at this;exact this);rw[← M] at G;obtain⟨I,i⟩:=Zcc A [42] (txB A) { data:=#[42] } rfl rfl (by simp;omega);obtain⟨j,C⟩:=eJ (txB (A++[42]));rw[C] at I;rw[C];have P:=qh D;replace C:=qh C;replace M:=qh M;have T:=qh E;clear E;have X:=qh hm;clear hm;clear h R B D ha G H
 go_enter Tryz.func22, Tryz.ntmps22
 go_wp2_with (first
  | (go_at_call 49;refine(ZaK 8 _ 5 rfl).mono ?_;rintro e w' ⟨rfl,rfl⟩)
  | (go_at_call 51;refine(P.o _ J.o.bel).mono ?_;rintro e w1 ⟨g,U,rfl,hS,N⟩;have L:=qh (show St w w1 [Ent.box w.heap.size #[.int .i64 8,.int .i64 0] 62,Ent.row 28 1 (.slice (some ⟨g,0,none⟩) 1 1) 1 [U]] from J.o.cat hS);have Q:=qh N;have d:=L.o.rcell (v:=U) 1 0 rfl (by omega) rfl;clear hS N)
  | (go_at_call 52;refine(HA.o _ _ Q.o).mono ?_;rintro e w2 ⟨rfl,hb2⟩;have F:=qh (L.o.call hb2);have r0:=F.o.cell (v:=.int .i64 8) 0 0 rfl rfl;clear hb2))
 go_ret;exact⟨rfl,F.o.bel⟩
theorem ZnF (a b:Ex) (h60:(Ex.join a b).post.length≤60) (ha:BrkC a) (hb:BrkC b):Zij (.join a b):=by
 intro v w h;have d:=h;rw[show(Ex.join a b).post=(a.post++b.post)++[(4,0)] from rfl] at d;obtain⟨bb,off,cap,rfl,c,aC,z,C⟩:=Zds d
 have Y:(a.post++b.post).length≤59:=by
  have h1:(Ex.join a b).post.length=(a.post++b.post).length+1:=by simp[Ex.post];omega
  omega
 have k:=Zbk a;have n:=Zbk b;have P:=ZaT 3 a (prE a);have R:=ZaT 4 b (prE b);have aH:a.post.length+b.post.length≤59:=by simpa using Y
 have Q:=qh ((St.start w).alloc w.heap.size rfl #[.int .i64 4,.int .i64 0] 62);have F:=fun (u:World) (hu:Below w.heap.size w u)=>ZdG a b (.join a b) 4 0 rfl ZeQ _ u h60 (h.below hu)
 obtain⟨m,hm⟩:=eI ((a.post++b.post).length);rw[← hm] at c C Y F;rw[← hm];obtain⟨k1,k2⟩:=C w (Below.refl _ _);have y:IntKind.i64.wrap ((m:Int)+1-1)=(m:Int):=by rw[IntWalk.i64_in _ (by omega)];omega
 obtain⟨A,U⟩:=eI (brk 3 a (prE a));obtain⟨B,O⟩:=eI (brk 4 b (prE b));have H:prE (.join a b)=(A++[])++B:=by rw[U,O];simp[prE]
 rw[H];have HA:=qh (fun (v:Value) (u:World) (hu:Pairs 0 u v a.post)=>(show Calls Tryz.prog 52 #[v,.int .i64 3] u fun e w'=>e = .returned (.string (txB A))∧Below u.heap.size u w' by have:=ha 3 v u hu;rw[← U] at this;exact this));have HB:=qh (fun (v:Value) (u:World) (hu:Pairs 0 u v b.post)=>(show Calls Tryz.prog 52 #[v,.int .i64 4] u fun e w'=>e = .returned (.string (txB B))∧Below u.heap.size u w' by have:=hb 4 v u hu;rw[← O] at this;exact this));rw[← U] at P;rw[← O] at R;obtain⟨M,n1⟩:=Zcc A [] (txB A) { data:=#[] } rfl rfl (by simp;omega);obtain⟨E,n2⟩:=Zcc (A++[]) B (txB (A++[])) (txB B) rfl rfl (by simp;omega);obtain⟨s1,I⟩:=eJ (txB (A++[]));obtain⟨s2,D⟩:=eJ (txB ((A++[])++B));rw[I] at M E n2;rw[D] at E;rw[D];have i:=qh F;replace I:=qh I;have s:=qh D;clear D;replace U:=qh U;have aG:=qh O;clear O;have q:=qh H;clear H;have aD:=qh hm;clear hm;have hmk:=@run_makeMap Tryz.prog;clear h d C F ha hb P R k n
 go_enter Tryz.func22, Tryz.ntmps22
 go_wp2_with (first
  | (go_at_call 49;refine(ZaK 4 _ 3 rfl).mono ?_;rintro e w' ⟨rfl,rfl⟩)
  | (go_at_call 51;refine(i.o _ Q.o.bel).mono ?_;rintro e w1 ⟨g,r,vb,rfl,hS,Z,V⟩;have S:=qh (show St w w1 [Ent.box w.heap.size #[.int .i64 4,.int .i64 0] 62,Ent.row 28 1 (.slice (some ⟨g,0,none⟩) 2 2) 2 [r,vb]] from Q.o.cat hS);have j:=qh Z;have p:=qh V;have q0:=S.o.rcell (v:=r) 1 0 rfl (by omega) rfl;clear hS Z V)
  | (go_at_call 52;(with_reducible refine(HA.o _ _ j.o).mono ?_);rintro e w2 ⟨rfl,hb2⟩;have L:=qh (S.o.call hb2);have T:=qh (p.o.below hb2);have r0:=L.o.cell (v:=.int .i64 4) 0 0 rfl rfl;have r1:=L.o.cell (v:=.int .i64 0) 0 1 rfl rfl;obtain⟨w3,w4,w5,aF,aE,x,aB,aA,G⟩:=ZsP w2;have J:=qh (L.o.call G);have N:=qh (T.o.below G);have r3:=J.o.cell (v:=.int .i64 4) 0 0 rfl rfl;have r4:=J.o.rcell (v:=vb) 1 1 rfl (by omega) rfl;clear hb2 G)
  | (go_at_call 52;(with_reducible refine(HB.o _ _ N.o).mono ?_);rintro e w6 ⟨rfl,X⟩;have l:=qh (J.o.call X);clear X))
 go_ret;exact⟨rfl,l.o.bel⟩
theorem Zqc (a b:Ex) (h60:(Ex.alt a b).post.length≤60) (ha:BrkC a) (hb:BrkC b):Zij (.alt a b):=by
 intro v w h;have d:=h;rw[show(Ex.alt a b).post=(a.post++b.post)++[(5,0)] from rfl] at d;obtain⟨bb,off,cap,rfl,c,aC,z,C⟩:=Zds d
 have Y:(a.post++b.post).length≤59:=by
  have h1:(Ex.alt a b).post.length=(a.post++b.post).length+1:=by simp[Ex.post];omega
  omega
 have k:=Zbk a;have n:=Zbk b;have P:=ZaT 1 a (prE a);have R:=ZaT 2 b (prE b);have aH:a.post.length+b.post.length≤59:=by simpa using Y
 have Q:=qh ((St.start w).alloc w.heap.size rfl #[.int .i64 5,.int .i64 0] 62);have F:=fun (u:World) (hu:Below w.heap.size w u)=>ZdG a b (.alt a b) 5 0 rfl Zhf _ u h60 (h.below hu)
 obtain⟨m,hm⟩:=eI ((a.post++b.post).length);rw[← hm] at c C Y F;rw[← hm];obtain⟨k1,k2⟩:=C w (Below.refl _ _);have y:IntKind.i64.wrap ((m:Int)+1-1)=(m:Int):=by rw[IntWalk.i64_in _ (by omega)];omega
 obtain⟨A,U⟩:=eI (brk 1 a (prE a));obtain⟨B,O⟩:=eI (brk 2 b (prE b));have H:prE (.alt a b)=(A++[124])++B:=by rw[U,O];simp[prE]
 rw[H];have HA:=qh (fun (v:Value) (u:World) (hu:Pairs 0 u v a.post)=>(show Calls Tryz.prog 52 #[v,.int .i64 1] u fun e w'=>e = .returned (.string (txB A))∧Below u.heap.size u w' by have:=ha 1 v u hu;rw[← U] at this;exact this));have HB:=qh (fun (v:Value) (u:World) (hu:Pairs 0 u v b.post)=>(show Calls Tryz.prog 52 #[v,.int .i64 2] u fun e w'=>e = .returned (.string (txB B))∧Below u.heap.size u w' by have:=hb 2 v u hu;rw[← O] at this;exact this));rw[← U] at P;rw[← O] at R;obtain⟨M,n1⟩:=Zcc A [124] (txB A) { data:=#[124] } rfl rfl (by simp;omega);obtain⟨E,n2⟩:=Zcc (A++[124]) B (txB (A++[124])) (txB B) rfl rfl (by simp;omega);obtain⟨s1,I⟩:=eJ (txB (A++[124]));obtain⟨s2,D⟩:=eJ (txB ((A++[124])++B));rw[I] at M E n2;rw[D] at E;rw[D];have i:=qh F;replace I:=qh I;have s:=qh D;clear D;replace U:=qh U;have aG:=qh O;clear O;have q:=qh H;clear H;have aD:=qh hm;clear hm;have hmk:=@run_makeMap Tryz.prog;clear h d C F ha hb P R k n
 go_enter Tryz.func22, Tryz.ntmps22
 go_wp2_with (first
  | (go_at_call 49;refine(ZaK 5 _ 1 rfl).mono ?_;rintro e w' ⟨rfl,rfl⟩)
  | (go_at_call 51;refine(i.o _ Q.o.bel).mono ?_;rintro e w1 ⟨g,r,vb,rfl,hS,Z,V⟩;have S:=qh (show St w w1 [Ent.box w.heap.size #[.int .i64 5,.int .i64 0] 62,Ent.row 28 1 (.slice (some ⟨g,0,none⟩) 2 2) 2 [r,vb]] from Q.o.cat hS);have j:=qh Z;have p:=qh V;have q0:=S.o.rcell (v:=r) 1 0 rfl (by omega) rfl;clear hS Z V)
  | (go_at_call 52;(with_reducible refine(HA.o _ _ j.o).mono ?_);rintro e w2 ⟨rfl,hb2⟩;have L:=qh (S.o.call hb2);have T:=qh (p.o.below hb2);have r0:=L.o.cell (v:=.int .i64 5) 0 0 rfl rfl;have r1:=L.o.cell (v:=.int .i64 0) 0 1 rfl rfl;obtain⟨w3,w4,w5,aF,aE,x,aB,aA,G⟩:=ZsO w2;have J:=qh (L.o.call G);have N:=qh (T.o.below G);have r3:=J.o.cell (v:=.int .i64 5) 0 0 rfl rfl;have r4:=J.o.rcell (v:=vb) 1 1 rfl (by omega) rfl;clear hb2 G)
  | (go_at_call 52;(with_reducible refine(HB.o _ _ N.o).mono ?_);rintro e w6 ⟨rfl,X⟩;have l:=qh (J.o.call X);clear X))
 go_ret;exact⟨rfl,l.o.bel⟩
theorem ZnG (a b:Ex) (h60:(Ex.both a b).post.length≤60) (ha:BrkC a) (hb:BrkC b):Zij (.both a b):=by
 intro v w h;have d:=h;rw[show(Ex.both a b).post=(a.post++b.post)++[(6,0)] from rfl] at d;obtain⟨bb,off,cap,rfl,c,aC,z,C⟩:=Zds d
 have Y:(a.post++b.post).length≤59:=by
  have h1:(Ex.both a b).post.length=(a.post++b.post).length+1:=by simp[Ex.post];omega
  omega
 have k:=Zbk a;have n:=Zbk b;have P:=ZaT 2 a (prE a);have R:=ZaT 3 b (prE b);have aH:a.post.length+b.post.length≤59:=by simpa using Y
 have Q:=qh ((St.start w).alloc w.heap.size rfl #[.int .i64 6,.int .i64 0] 62);have F:=fun (u:World) (hu:Below w.heap.size w u)=>ZdG a b (.both a b) 6 0 rfl ZeR _ u h60 (h.below hu)
 obtain⟨m,hm⟩:=eI ((a.post++b.post).length);rw[← hm] at c C Y F;rw[← hm];obtain⟨k1,k2⟩:=C w (Below.refl _ _);have y:IntKind.i64.wrap ((m:Int)+1-1)=(m:Int):=by rw[IntWalk.i64_in _ (by omega)];omega
 obtain⟨A,U⟩:=eI (brk 2 a (prE a));obtain⟨B,O⟩:=eI (brk 3 b (prE b));have H:prE (.both a b)=(A++[38])++B:=by rw[U,O];simp[prE]
 rw[H];have HA:=qh (fun (v:Value) (u:World) (hu:Pairs 0 u v a.post)=>(show Calls Tryz.prog 52 #[v,.int .i64 2] u fun e w'=>e = .returned (.string (txB A))∧Below u.heap.size u w' by have:=ha 2 v u hu;rw[← U] at this;exact this));have HB:=qh (fun (v:Value) (u:World) (hu:Pairs 0 u v b.post)=>(show Calls Tryz.prog 52 #[v,.int .i64 3] u fun e w'=>e = .returned (.string (txB B))∧Below u.heap.size u w' by have:=hb 3 v u hu;rw[← O] at this;exact this));rw[← U] at P;rw[← O] at R;obtain⟨M,n1⟩:=Zcc A [38] (txB A) { data:=#[38] } rfl rfl (by simp;omega);obtain⟨E,n2⟩:=Zcc (A++[38]) B (txB (A++[38])) (txB B) rfl rfl (by simp;omega);obtain⟨s1,I⟩:=eJ (txB (A++[38]));obtain⟨s2,D⟩:=eJ (txB ((A++[38])++B));rw[I] at M E n2;rw[D] at E;rw[D];have i:=qh F;replace I:=qh I;have s:=qh D;clear D;replace U:=qh U;have aG:=qh O;clear O;have q:=qh H;clear H;have aD:=qh hm;clear hm;have hmk:=@run_makeMap Tryz.prog;clear h d C F ha hb P R k n
 go_enter Tryz.func22, Tryz.ntmps22
 go_wp2_with (first
  | (go_at_call 49;refine(ZaK 6 _ 2 rfl).mono ?_;rintro e w' ⟨rfl,rfl⟩)
  | (go_at_call 51;refine(i.o _ Q.o.bel).mono ?_;rintro e w1 ⟨g,r,vb,rfl,hS,Z,V⟩;have S:=qh (show St w w1 [Ent.box w.heap.size #[.int .i64 6,.int .i64 0] 62,Ent.row 28 1 (.slice (some ⟨g,0,none⟩) 2 2) 2 [r,vb]] from Q.o.cat hS);have j:=qh Z;have p:=qh V;have q0:=S.o.rcell (v:=r) 1 0 rfl (by omega) rfl;clear hS Z V)
  | (go_at_call 52;(with_reducible refine(HA.o _ _ j.o).mono ?_);rintro e w2 ⟨rfl,hb2⟩;have L:=qh (S.o.call hb2);have T:=qh (p.o.below hb2);have r0:=L.o.cell (v:=.int .i64 6) 0 0 rfl rfl;have r1:=L.o.cell (v:=.int .i64 0) 0 1 rfl rfl;obtain⟨w3,w4,w5,aF,aE,x,aB,aA,G⟩:=ZsN w2;have J:=qh (L.o.call G);have N:=qh (T.o.below G);have r3:=J.o.cell (v:=.int .i64 6) 0 0 rfl rfl;have r4:=J.o.rcell (v:=vb) 1 1 rfl (by omega) rfl;clear hb2 G)
  | (go_at_call 52;(with_reducible refine(HB.o _ _ N.o).mono ?_);rintro e w6 ⟨rfl,X⟩;have l:=qh (J.o.call X);clear X))
 go_ret;exact⟨rfl,l.o.bel⟩
theorem Zqd:∀ t:Ex,t.post.length≤60→Zij t:=by
 intro t
 induction t with
 | zero=>exact fun _=>ZnD
 | one=>exact fun _=>Zp9
 | ltr c=>exact fun _=>Zqb c
 | neg a ha=>intro h;have h1:a.post.length≤60:=by simp[Ex.post] at h;omega
             exact Zqa a h (Zgo a h1 (ha h1))
 | star a ha=>intro h;have h1:a.post.length≤60:=by simp[Ex.post] at h;omega
              exact ZnE a h (Zgo a h1 (ha h1))
 | join a b ha hb=>intro h;have h1:a.post.length≤60∧b.post.length≤60:=by simp[Ex.post] at h;omega
                   exact ZnF a b h (Zgo a h1.1 (ha h1.1)) (Zgo b h1.2 (hb h1.2))
 | alt a b ha hb=>intro h;have h1:a.post.length≤60∧b.post.length≤60:=by simp[Ex.post] at h;omega
                  exact Zqc a b h (Zgo a h1.1 (ha h1.1)) (Zgo b h1.2 (hb h1.2))
 | both a b ha hb=>intro h;have h1:a.post.length≤60∧b.post.length≤60:=by simp[Ex.post] at h;omega
                   exact ZnG a b h (Zgo a h1.1 (ha h1.1)) (Zgo b h1.2 (hb h1.2))
theorem ZdU (es:List (Int × Int)) (v:Value) (w:World) (h:Pairs 0 w v es) :
  Calls Tryz.prog 31 #[v] w fun e w'=>e = .returned (.string (txB (ZeJ es)))∧Below w.heap.size w w':=by
 cases hok:exOk es
 ·rw[ZgE hok];have B:=qh hok;clear hok
  go_enter Tryz.func31, Tryz.ntmps31
  go_wp2_with (go_at_call 74;refine(Zcl es _ _ h _ B.o).mono ?_;rintro e w1 ⟨rfl,hb⟩;replace hb:=qh hb);go_ret;exact⟨rfl,hb.o⟩
 obtain⟨t,rfl,hl,ht⟩:=ZgD hok;rw[ht];have F:=qh (Zqd t hl);have D:=qh h;have B:=qh hok;clear hok;have E:=qh ht;clear ht;clear h
 go_enter Tryz.func31, Tryz.ntmps31
 go_wp2_with (first
  | (go_at_call 74;refine(Zcl t.post _ _ D.o _ B.o).mono ?_;rintro e w1 ⟨rfl,hb⟩;replace hb:=qh hb)
  | (go_at_call 22;refine(F.o _ _ (D.o.below hb.o)).mono ?_;rintro e w2 ⟨rfl,hb2⟩;have C:=qh hb2;clear hb2))
 go_ret;exact⟨rfl,hb.o.trans (C.o.mono hb.o.size)⟩
theorem ZrC {l m:List Nat} (hl:isT l) (hm:isT m) (h:txB l=txB m):l=m:=by
 have h1:=congrArg (fun s:ByteArray=>s.data.toList) h;simp only[txB] at h1
 have h2:∀ (l m:List Nat),isT l→isT m→l.map UInt8.ofNat=m.map UInt8.ofNat→l=m:=by
  intro l
  induction l with
  | nil =>
   intro m _ _ h;cases m with
   | nil=>rfl
   | cons=>simp at h
  | cons a l D =>
   intro m hl hm h;cases m with
   | nil=>simp at h
   | cons b m =>obtain⟨C,ha⟩:=ZcG hl;obtain⟨B,hb⟩:=ZcG hm;simp only[List.map_cons,List.cons.injEq] at h;have h3:=congrArg UInt8.toNat h.1;rw[UInt8.toNat_ofNat',UInt8.toNat_ofNat'] at h3;rw[show a=b by omega,D m C B h.2]
 exact h2 l m hl hm (by simpa using h1)
theorem ZnB {l m:List Nat} (hl:isT l) (hm:isT m) (h:l≠m):((txB l).toList==(txB m).toList)=false:=by rw[beq_eq_false_iff_ne];intro h1;rw[ByteArray.toList_eq,ByteArray.toList_eq] at h1;exact h (ZrC hl hm (ByteArray.ext (Array.ext' h1)))
theorem ZcO (es:List (Int × Int)):isT (ZeJ es):=fun c hc=>ZrZ ((ZlR es).1 c hc)
def RRe (s:List Nat) (w:World) (e:Ending) (w':World):Prop:=(Zbv s=none∧e = .returned (.tuple #[.slice none 0 0,.bool false])∧Below w.heap.size w w') ∨
 (∃ es a c,Zbv s=some es∧e = .returned (.tuple #[.slice a es.length c,.bool true])∧St w w' [Ent.row 62 2 (.slice a es.length c) es.length (es.flatMap Zaa)])
theorem ZdT (s:List Nat) (w:World) (ht:isT s):Calls Tryz.prog 12 #[.string (txB s)] w fun e w'=>RRe s w e w':=by
 have hs:=ZaE s;by_cases hl:120<s.length
 ·have T:(120:Int)<s.length:=by omega
  have C:=Ziw hl;replace C:=qh C
  go_enter Tryz.func12, Tryz.ntmps12
  go_wp2;refine bodyPost_ret (v:=.tuple #[.slice none 0 0,.bool false]) (by simp[results,Tryz.results12,go_sem]) rfl ?_;exact .inl ⟨C.o,rfl,Below.refl _ _⟩
 have T:(s.length:Int)≤120:=by omega
 have hr:=Zl5 Zrt (Nat.le_refl (fuP 1 s)) (show s.length≤120 by omega);have M:St w _ [Ent.box w.heap.size #[.string (txB s),.bool false] 54,Ent.nil]:=((St.start w).alloc w.heap.size rfl #[.string (txB s),.bool false] 54).add (Below.refl _ _) Ent.nil trivial (fun k hk=>hk.elim);have U:=(Ziu (fuP 1 s)).2.2 1 s w.heap.size w _ Ent.nil (by omega) (by omega) (Nat.le_refl _) (by omega) ht M;have hm:=ZdE jI (fuP 1 s) 1 s;obtain⟨x,hx⟩:=eJ (rdP jI (fuP 1 s) 1 s);rw[hx] at U hr hm;obtain⟨es,q,fl⟩:=x;have N:=qh U;have Q:=qh ht;have Hr:=qh hr;have V:=qh hx;clear hx;clear U hr hm M hl;cases fl with
 | true =>
  have C:Zbv s=none:=by rw[Hr.o];exact if_neg (fun h=>by cases h.1)
  replace C:=qh C
  go_enter Tryz.func12, Tryz.ntmps12
  go_wp2_with (go_at_call 30;refine(N.o).mono ?_;rintro e w1 ⟨a1,c1,r1,rfl,E,L,J,B⟩;have D:=qh B;have O:=B.cell (v:=.string (txB r1)) 0 0 rfl rfl;have S:=B.cell (v:=.bool true) 0 1 rfl rfl;clear B);refine bodyPost_ret (v:=.tuple #[.slice none 0 0,.bool false]) (by simp[results,Tryz.results12,go_sem]) rfl ?_;exact .inl ⟨C.o,rfl,D.o.bel⟩
 | false =>
  cases q with
  | cons d q =>
   have C:Zbv s=none:=by rw[Hr.o];exact if_neg (fun h=>by cases h.2.1)
   have he:=Zeq (d::q);simp only[List.isEmpty_cons] at he;replace C:=qh C
   go_enter Tryz.func12, Tryz.ntmps12
   go_wp2_with (go_at_call 30;refine(N.o).mono ?_;rintro e w1 ⟨a1,c1,r1,rfl,E,L,J,B⟩;have F:=E rfl;subst F;have D:=qh B;have O:=B.cell (v:=.string (txB (d::q))) 0 0 rfl rfl;have S:=B.cell (v:=.bool false) 0 1 rfl rfl;clear B);refine bodyPost_ret (v:=.tuple #[.slice none 0 0,.bool false]) (by simp[results,Tryz.results12,go_sem]) rfl ?_;exact .inl ⟨C.o,rfl,D.o.bel⟩
  | nil =>
   have he:=Zeq [];simp only[List.isEmpty_nil] at he;by_cases hq:ZeJ es=s
   ·have G:Zbv s=some es:=by rw[Hr.o];exact if_pos ⟨rfl,rfl,hq⟩
    have P:=qh (fun (v:Value) (u:World) (R:Pairs 0 u v es)=>by have:=ZdU es v u R;rw[hq] at this;exact this);have I:=qh G;clear G;clear hq
    go_enter Tryz.func12, Tryz.ntmps12
    go_wp2_with (first
     | (go_at_call 30;refine(N.o).mono ?_;rintro e w1 ⟨a1,c1,r1,rfl,E,L,J,B⟩;have F:=E rfl;subst F;have D:=qh B;have O:=B.cell (v:=.string (txB [])) 0 0 rfl rfl;have S:=B.cell (v:=.bool false) 0 1 rfl rfl;clear B)
     | (go_at_call 31;refine(P.o _ _ (Zaj (D.o.row 2 rfl))).mono ?_;rintro e w2 ⟨rfl,hb2⟩;have H:=qh (D.o.call hb2);clear hb2))
    refine bodyPost_ret (v:=.tuple #[.slice a1 es.length c1,.bool true]) (by simp[results,Tryz.results12,go_sem]) rfl ?_;exact .inr ⟨es,a1,c1,I.o,rfl,H.o.pick [2] (by decide)⟩
   have C:Zbv s=none:=by rw[Hr.o];exact if_neg (fun h=>hq h.2.2)
   have X:=ZnB (ZcO es) Q.o hq;have P:=qh (fun (v:Value) (u:World) (R:Pairs 0 u v es)=>ZdU es v u R);replace C:=qh C;clear hq
   go_enter Tryz.func12, Tryz.ntmps12
   go_wp2_with (first
    | (go_at_call 30;refine(N.o).mono ?_;rintro e w1 ⟨a1,c1,r1,rfl,E,L,J,B⟩;have F:=E rfl;subst F;have D:=qh B;have O:=B.cell (v:=.string (txB [])) 0 0 rfl rfl;have S:=B.cell (v:=.bool false) 0 1 rfl rfl;clear B)
    | (go_at_call 31;refine(P.o _ _ (Zaj (D.o.row 2 rfl))).mono ?_;rintro e w2 ⟨rfl,hb2⟩;have H:=qh (D.o.call hb2);clear hb2))
   refine bodyPost_ret (v:=.tuple #[.slice none 0 0,.bool false]) (by simp[results,Tryz.results12,go_sem]) rfl ?_;exact .inl ⟨C.o,rfl,H.o.bel⟩
theorem Zbl (t:Ex) (v:Value) (w:World) (h60:t.post.length≤60) (h:Pairs 0 w v t.post) (r:Int) (hr:(bnd t:Int)-1=r):Calls Tryz.prog 81 #[v] w fun e w'=>e = .returned (.int .i64 r)∧w=w':=by
 obtain⟨pre,p,C,hb⟩:=Zkp t;rw[C] at h;obtain⟨O,off,cap,rfl,F,H,L,D⟩:=Zds h;have G:pre.length≤59:=by rw[C] at h60;simp at h60;omega
 obtain⟨m,hm⟩:=eI (pre.length);rw[← hm] at F D G;rw[← hm];obtain⟨N,M⟩:=D w (Below.refl _ _);obtain⟨k,x⟩:=p;have I:IntKind.i64.wrap ((m:Int)+1-1)=(m:Int):=by rw[IntWalk.i64_in _ (by omega)];omega
 have B:bnK k-1=r:=by rw[← hr,← hb]
 unfold bnK at B;replace hm:=qh hm;have E:=qh C;clear C;replace hb:=qh hb;have J:=qh hr;clear hr;clear h D
 go_enter Tryz.func81, Tryz.ntmps81
 by_cases h5:k=5
 ·rw[if_pos h5] at B;subst B;subst h5;go_wp2;go_ret;exact⟨rfl,rfl⟩
 rw[if_neg h5] at B;by_cases h6:k=6
 ·rw[if_pos h6] at B;subst B;subst h6;go_wp2;go_ret;exact⟨rfl,rfl⟩
 rw[if_neg h6] at B;by_cases h4:k=4
 ·rw[if_pos h4] at B;subst B;subst h4;go_wp2;go_ret;exact⟨rfl,rfl⟩
 rw[if_neg h4] at B;by_cases h7:k=7
 ·rw[if_pos h7] at B;subst B;subst h7;go_wp2;go_ret;exact⟨rfl,rfl⟩
 rw[if_neg h7] at B;by_cases h8:k=8
 ·rw[if_pos h8] at B;subst B;subst h8;go_wp2;go_ret;exact⟨rfl,rfl⟩
 rw[if_neg h8] at B;subst B;go_wp2;go_ret;exact⟨rfl,rfl⟩
def PrC (t:Ex):Prop:=∀ (l:Nat) (v:Value) (w:World),Pairs 0 w v t.post→Calls Tryz.prog 43 #[v,.int .i64 (l:Int)] w fun e w'=>e = .returned (.string (txB (brk (l+1) t (prE t))))∧Below w.heap.size w w'
def Pr0 (t:Ex):Prop:=∀ (l:Nat) (v:Value) (w:World),l+1≤bnd t→Pairs 0 w v t.post→Calls Tryz.prog 43 #[v,.int .i64 (l:Int)] w fun e w'=>e = .returned (.string (txB (prE t)))∧Below w.heap.size w w'
theorem Zc2 (t:Ex) (h60:t.post.length≤60) (h0:Pr0 t):PrC t:=by
 intro l v w h;have hbd:=ZlK t;have hlen:=Zbk t;have hx:=qh (show Calls Tryz.prog 43 #[v,.int .i64 0] w fun e w'=>e = .returned (.string (txB (prE t)))∧Below w.heap.size w w' from h0 0 v w (by omega) h);obtain⟨B,H⟩:=eJ (bnd t);have F:=qh (show((bnd t:Nat):Int)-1=(B:Int)-1 by rw[H]);have L:=qh h;unfold brk;by_cases hlt:bnd t<l+1
 ·rw[if_pos hlt];rw[H] at hlt hbd;have I:(B:Int)-1<(l:Int):=by omega
  obtain⟨T,D⟩:=eJ (prE t);rw[D] at hx hlen ⊢;obtain⟨G,O⟩:=Zcc [40] T { data:=#[40] } (txB T) rfl rfl (by simp;omega);obtain⟨C,M⟩:=Zcc ([40]++T) [41] (txB ([40]++T)) { data:=#[41] } rfl rfl (by simp;omega);have e2:[40]++T++[41]=40::(T++[41]):=by simp
  rw[e2] at C;obtain⟨P,E⟩:=eJ (txB ([40]++T));rw[E] at G C M;replace E:=qh E;replace e2:=qh e2;have N:=qh H;clear H;have J:=qh D;clear D;clear h
  go_enter Tryz.func43, Tryz.ntmps43
  go_wp2_with (first
   | (go_at_call 81;refine(Zbl _ _ _ h60 L.o ((B:Int)-1) F.o).mono ?_;rintro e w' ⟨rfl,rfl⟩)
   | (go_at_call 43;refine(hx.o).mono ?_;rintro e w1 ⟨rfl,hb1⟩))
  go_ret;exact⟨rfl,hb1⟩
 rw[if_neg hlt];exact h0 l v w (by omega) h
theorem ZmR:Pr0 (.zero):=by
 intro l v w hl h;have hl:l≤5:=by have h2:l+1≤6:=hl;omega
 have h60:(Ex.zero).post.length≤60:=by simp[Ex.post]
 have hok:=ZaD _ h60;have F:=qh h;have D:=qh (show((bnd (Ex.zero):Nat):Int)-1=5 from rfl);obtain⟨O,off,cap,rfl,E,J,L,B⟩:=Zds (pre:=[]) (p:=(1,0)) h;simp only[List.length_nil,Nat.zero_add,Nat.zero_mul,Nat.add_zero] at E B F;simp only[List.length_nil,Nat.zero_add];have C:=qh B;have I:(l:Int)≤5:=by omega
 replace hok:=qh hok;clear h B hl
 go_enter Tryz.func43, Tryz.ntmps43
 go_wp2_with (first
  | (go_at_call 81;refine(Zbl _ _ _ h60 F.o 5 D.o).mono ?_;rintro e w' ⟨rfl,rfl⟩)
  | (go_at_call 82;refine(ZaJ _ _ _ hok.o F.o).mono ?_;rintro e w1 ⟨P,Q,xs,ys,H,rfl,hx,hy,hb1⟩;obtain⟨N,M⟩:=C.o _ hb1;have G:=qh (((St.start w).call hb1).alloc w1.heap.size rfl #[.int .i64 1,.int .i64 0] 62);clear hb1 hx hy H))
 go_ret;exact⟨rfl,G.o.bel⟩
theorem Zod:Pr0 (.one):=by
 intro l v w hl h;have hl:l≤5:=by have h2:l+1≤6:=hl;omega
 have h60:(Ex.one).post.length≤60:=by simp[Ex.post]
 have hok:=ZaD _ h60;have F:=qh h;have D:=qh (show((bnd (Ex.one):Nat):Int)-1=5 from rfl);obtain⟨O,off,cap,rfl,E,J,L,B⟩:=Zds (pre:=[]) (p:=(2,0)) h;simp only[List.length_nil,Nat.zero_add,Nat.zero_mul,Nat.add_zero] at E B F;simp only[List.length_nil,Nat.zero_add];have C:=qh B;have I:(l:Int)≤5:=by omega
 replace hok:=qh hok;clear h B hl
 go_enter Tryz.func43, Tryz.ntmps43
 go_wp2_with (first
  | (go_at_call 81;refine(Zbl _ _ _ h60 F.o 5 D.o).mono ?_;rintro e w' ⟨rfl,rfl⟩)
  | (go_at_call 82;refine(ZaJ _ _ _ hok.o F.o).mono ?_;rintro e w1 ⟨P,Q,xs,ys,H,rfl,hx,hy,hb1⟩;obtain⟨N,M⟩:=C.o _ hb1;have G:=qh (((St.start w).call hb1).alloc w1.heap.size rfl #[.int .i64 2,.int .i64 0] 62);clear hb1 hx hy H))
 go_ret;exact⟨rfl,G.o.bel⟩
theorem Zof (c:Nat) (hc:c<3):Pr0 (.ltr ⟨c,hc⟩):=by
 intro l v w hl h;have hl:l≤5:=by have h2:l+1≤6:=hl;omega
 have h60:(Ex.ltr ⟨c,hc⟩).post.length≤60:=by simp[Ex.post]
 have hok:=ZaD _ h60;have H:=qh h;have E:=qh (show((bnd (Ex.ltr ⟨c,hc⟩):Nat):Int)-1=5 from rfl);obtain⟨T,off,cap,rfl,G,O,P,B⟩:=Zds (pre:=[]) (p:=(3,(c:Int))) h;simp only[List.length_nil,Nat.zero_add,Nat.zero_mul,Nat.add_zero] at G B H;simp only[List.length_nil,Nat.zero_add];have D:=qh B;have C:txB (prE (.ltr ⟨c,hc⟩))=txB [97+c]:=rfl;rw[C];have N:=Znx c hc;have Q:IntKind.i64.wrap (97+(c:Int))=97+(c:Int):=IntWalk.i64_in _ (by omega);replace C:=qh C;have M:(l:Int)≤5:=by omega
 replace hok:=qh hok;clear h B hl
 go_enter Tryz.func43, Tryz.ntmps43
 go_wp2_with (first
  | (go_at_call 81;refine(Zbl _ _ _ h60 H.o 5 E.o).mono ?_;rintro e w' ⟨rfl,rfl⟩)
  | (go_at_call 82;refine(ZaJ _ _ _ hok.o H.o).mono ?_;rintro e w1 ⟨U,V,xs,ys,J,rfl,hx,hy,hb1⟩;obtain⟨S,R⟩:=D.o _ hb1;have I:=qh (((St.start w).call hb1).alloc w1.heap.size rfl #[.int .i64 3,.int .i64 (c:Int)] 62);have L:=Zra c hc ((w1.alloc (.cells #[.int .i64 3,.int .i64 (c:Int)] 62)).alloc (.cells #[.int .u8 (97+(c:Int))] 5)) (w1.heap.size+1) 1 (by simp);have F:=qh (I.o.alloc_ (.cells #[.int .u8 (97+(c:Int))] 5));clear hb1 hx hy J))
 go_ret;exact⟨rfl,F.o.bel⟩
theorem Zoe (a:Ex) (h60:(Ex.neg a).post.length≤60) (ha:PrC a):Pr0 (.neg a):=by
 intro l v w hl h;have hl:l≤3:=by have h2:l+1≤4:=hl;omega
 have hok:=ZaD _ h60;have Q:=qh h;have F:=qh (show((bnd (Ex.neg a):Nat):Int)-1=3 from rfl);have S:=h;rw[show(Ex.neg a).post=(a.post)++[(7,0)] from rfl] at S;obtain⟨i,off,cap,rfl,P,Y,Z,B⟩:=Zds S;have T:a.post.length≤59:=by simp[Ex.post] at h60;omega
 have I:=Zbk a;have H:=ZaT 4 a (prE a);obtain⟨m,hm⟩:=eI (a.post.length);rw[← hm] at P B T Q I;rw[← hm];have E:=qh B;have c:IntKind.i64.wrap ((m:Int)+1-1)=(m:Int):=by rw[IntWalk.i64_in _ (by omega)];omega
 obtain⟨A,M⟩:=eI (brk 4 a (prE a));have D:prE (.neg a)=[33]++A:=by rw[M];simp[prE]
 rw[D];have HA:=qh (fun (v:Value) (u:World) (hu:Pairs 0 u v a.post)=>(show Calls Tryz.prog 43 #[v,.int .i64 3] u fun e w'=>e = .returned (.string (txB A))∧Below u.heap.size u w' by have:=ha 3 v u hu;rw[← M] at this;exact this));rw[← M] at H;obtain⟨J,j⟩:=Zcc [33] A { data:=#[33] } (txB A) rfl rfl (by simp;omega);obtain⟨k,C⟩:=eJ (txB ([33]++A));rw[C] at J;rw[C];replace C:=qh C;replace M:=qh M;have U:=qh D;clear D;have b:=qh hm;clear hm;have G:=qh hok;clear hok;have X:(l:Int)≤3:=by omega
 clear h S B ha H I hl
 go_enter Tryz.func43, Tryz.ntmps43
 go_wp2_with (first
  | (go_at_call 81;refine(Zbl _ _ _ h60 Q.o 3 F.o).mono ?_;rintro e w' ⟨rfl,rfl⟩)
  | (go_at_call 82;refine(ZaJ _ _ _ G.o Q.o).mono ?_;rintro e w1 ⟨n,q,xs,ys,N,rfl,hx,hy,hb1⟩;have L:=Zd4 (a:=a) (p:=(7,0)) Zhe N;obtain⟨rfl,rfl⟩:=L;obtain⟨g,d⟩:=E.o _ hb1;have R:=qh (((St.start w).call hb1).alloc w1.heap.size rfl #[.int .i64 7,.int .i64 0] 62);have V:=qh (hx.below ((Below.refl w1.heap.size w1).alloc (Nat.le_refl _) (.cells #[.int .i64 7,.int .i64 0] 62)));clear hb1 hx hy N)
  | (go_at_call 43;(with_reducible refine(HA.o _ _ V.o).mono ?_);rintro e w2 ⟨rfl,hb2⟩;have O:=qh (R.o.call hb2);clear hb2))
 go_ret;exact⟨rfl,O.o.bel⟩
theorem ZmS (a:Ex) (h60:(Ex.star a).post.length≤60) (ha:PrC a):Pr0 (.star a):=by
 intro l v w hl h;have hl:l≤4:=by have h2:l+1≤5:=hl;omega
 have hok:=ZaD _ h60;have Q:=qh h;have F:=qh (show((bnd (Ex.star a):Nat):Int)-1=4 from rfl);have S:=h;rw[show(Ex.star a).post=(a.post)++[(8,0)] from rfl] at S;obtain⟨i,off,cap,rfl,P,Y,Z,B⟩:=Zds S;have T:a.post.length≤59:=by simp[Ex.post] at h60;omega
 have I:=Zbk a;have H:=ZaT 5 a (prE a);obtain⟨m,hm⟩:=eI (a.post.length);rw[← hm] at P B T Q I;rw[← hm];have E:=qh B;have c:IntKind.i64.wrap ((m:Int)+1-1)=(m:Int):=by rw[IntWalk.i64_in _ (by omega)];omega
 obtain⟨A,M⟩:=eI (brk 5 a (prE a));have D:prE (.star a)=A++[42]:=by rw[M];simp[prE]
 rw[D];have HA:=qh (fun (v:Value) (u:World) (hu:Pairs 0 u v a.post)=>(show Calls Tryz.prog 43 #[v,.int .i64 4] u fun e w'=>e = .returned (.string (txB A))∧Below u.heap.size u w' by have:=ha 4 v u hu;rw[← M] at this;exact this));rw[← M] at H;obtain⟨J,j⟩:=Zcc A [42] (txB A) { data:=#[42] } rfl rfl (by simp;omega);obtain⟨k,C⟩:=eJ (txB (A++[42]));rw[C] at J;rw[C];replace C:=qh C;replace M:=qh M;have U:=qh D;clear D;have b:=qh hm;clear hm;have G:=qh hok;clear hok;have X:(l:Int)≤4:=by omega
 clear h S B ha H I hl
 go_enter Tryz.func43, Tryz.ntmps43
 go_wp2_with (first
  | (go_at_call 81;refine(Zbl _ _ _ h60 Q.o 4 F.o).mono ?_;rintro e w' ⟨rfl,rfl⟩)
  | (go_at_call 82;refine(ZaJ _ _ _ G.o Q.o).mono ?_;rintro e w1 ⟨n,q,xs,ys,N,rfl,hx,hy,hb1⟩;have L:=Zd4 (a:=a) (p:=(8,0)) ZeP N;obtain⟨rfl,rfl⟩:=L;obtain⟨g,d⟩:=E.o _ hb1;have R:=qh (((St.start w).call hb1).alloc w1.heap.size rfl #[.int .i64 8,.int .i64 0] 62);have V:=qh (hx.below ((Below.refl w1.heap.size w1).alloc (Nat.le_refl _) (.cells #[.int .i64 8,.int .i64 0] 62)));clear hb1 hx hy N)
  | (go_at_call 43;(with_reducible refine(HA.o _ _ V.o).mono ?_);rintro e w2 ⟨rfl,hb2⟩;have O:=qh (R.o.call hb2);clear hb2))
 go_ret;exact⟨rfl,O.o.bel⟩
theorem ZmT (a b:Ex) (h60:(Ex.join a b).post.length≤60) (ha:PrC a) (hb:PrC b):Pr0 (.join a b):=by
 intro l v w hl h;have hl:l≤2:=by have h2:l+1≤3:=hl;omega
 have hok:=ZaD _ h60;have U:=qh h;have G:=qh (show((bnd (Ex.join a b):Nat):Int)-1=2 from rfl);have d:=h;rw[show(Ex.join a b).post=(a.post++b.post)++[(4,0)] from rfl] at d;obtain⟨bb,off,cap,rfl,T,k,n,C⟩:=Zds d
 have R:(a.post++b.post).length≤59:=by
  have h1:(Ex.join a b).post.length=(a.post++b.post).length+1:=by simp[Ex.post];omega
  omega
 have V:=Zbk a;have Z:=Zbk b;have J:=ZaT 3 a (prE a);have L:=ZaT 4 b (prE b);have x:a.post.length+b.post.length≤59:=by simpa using R
 obtain⟨m,hm⟩:=eI ((a.post++b.post).length);rw[← hm] at T C R U;rw[← hm];have F:=qh C;have s:IntKind.i64.wrap ((m:Int)+1-1)=(m:Int):=by rw[IntWalk.i64_in _ (by omega)];omega
 obtain⟨A,P⟩:=eI (brk 3 a (prE a));obtain⟨B,N⟩:=eI (brk 4 b (prE b));have E:prE (.join a b)=(A++[])++B:=by rw[P,N];simp[prE]
 rw[E];have HA:=qh (fun (v:Value) (u:World) (hu:Pairs 0 u v a.post)=>(show Calls Tryz.prog 43 #[v,.int .i64 2] u fun e w'=>e = .returned (.string (txB A))∧Below u.heap.size u w' by have:=ha 2 v u hu;rw[← P] at this;exact this));have HB:=qh (fun (v:Value) (u:World) (hu:Pairs 0 u v b.post)=>(show Calls Tryz.prog 43 #[v,.int .i64 3] u fun e w'=>e = .returned (.string (txB B))∧Below u.heap.size u w' by have:=hb 3 v u hu;rw[← N] at this;exact this));rw[← P] at J;rw[← N] at L;obtain⟨I,n2⟩:=Zcc A B (txB A) (txB B) rfl rfl (by omega);rw[List.append_nil];obtain⟨s2,D⟩:=eJ (txB (A++B));rw[D] at I;rw[D];replace D:=qh D;replace P:=qh P;have r:=qh N;clear N;have g:=qh E;clear E;have q:=qh hm;clear hm;have H:=qh hok;clear hok;have j:(l:Int)≤2:=by omega
 clear h d C ha hb J L V Z hl
 go_enter Tryz.func43, Tryz.ntmps43
 go_wp2_with (first
  | (go_at_call 81;refine(Zbl _ _ _ h60 U.o 2 G.o).mono ?_;rintro e w' ⟨rfl,rfl⟩)
  | (go_at_call 82;refine(ZaJ _ _ _ H.o U.o).mono ?_;rintro e w1 ⟨vx,vy,xs,ys,Q,rfl,hx,hy,hb1⟩;have O:=Zd3 (a:=a) (b:=b) (p:=(4,0)) ZeQ Q;obtain⟨rfl,rfl⟩:=O;obtain⟨k1,z⟩:=F.o _ hb1;have c:=qh (((St.start w).call hb1).alloc w1.heap.size rfl #[.int .i64 4,.int .i64 0] 62);have i:=qh (hx.below ((Below.refl w1.heap.size w1).alloc (Nat.le_refl _) (.cells #[.int .i64 4,.int .i64 0] 62)));have y:=qh (hy.below ((Below.refl w1.heap.size w1).alloc (Nat.le_refl _) (.cells #[.int .i64 4,.int .i64 0] 62)));clear hb1 hx hy Q)
  | (go_at_call 43;(with_reducible refine(HA.o _ _ i.o).mono ?_);rintro e w2 ⟨rfl,hb2⟩;have S:=qh (c.o.call hb2);have Y:=qh (y.o.below hb2);clear hb2)
  | (go_at_call 43;(with_reducible refine(HB.o _ _ Y.o).mono ?_);rintro e w3 ⟨rfl,M⟩;have X:=qh (S.o.call M);clear M))
 go_ret;exact⟨rfl,X.o.bel⟩
theorem Zog (a b:Ex) (h60:(Ex.alt a b).post.length≤60) (ha:PrC a) (hb:PrC b):Pr0 (.alt a b):=by
 intro l v w hl h;have hl:l≤0:=by have h2:l+1≤1:=hl;omega
 have hok:=ZaD _ h60;have Z:=qh h;have L:=qh (show((bnd (Ex.alt a b):Nat):Int)-1=0 from rfl);have X:=h;rw[show(Ex.alt a b).post=(a.post++b.post)++[(5,0)] from rfl] at X;obtain⟨bb,off,cap,rfl,U,s,r,C⟩:=Zds X
 have T:(a.post++b.post).length≤59:=by
  have h1:(Ex.alt a b).post.length=(a.post++b.post).length+1:=by simp[Ex.post];omega
  omega
 have c:=Zbk a;have i:=Zbk b;have N:=ZaT 1 a (prE a);have O:=ZaT 2 b (prE b);have aC:a.post.length+b.post.length≤59:=by simpa using T
 obtain⟨m,hm⟩:=eI ((a.post++b.post).length);rw[← hm] at U C T Z;rw[← hm];have H:=qh C;have q:IntKind.i64.wrap ((m:Int)+1-1)=(m:Int):=by rw[IntWalk.i64_in _ (by omega)];omega
 obtain⟨A,Q⟩:=eI (brk 1 a (prE a));obtain⟨B,J⟩:=eI (brk 2 b (prE b));have F:prE (.alt a b)=(A++[124])++B:=by rw[Q,J];simp[prE]
 rw[F];have HA:=qh (fun (v:Value) (u:World) (hu:Pairs 0 u v a.post)=>(show Calls Tryz.prog 43 #[v,.int .i64 0] u fun e w'=>e = .returned (.string (txB A))∧Below u.heap.size u w' by have:=ha 0 v u hu;rw[← Q] at this;exact this));have HB:=qh (fun (v:Value) (u:World) (hu:Pairs 0 u v b.post)=>(show Calls Tryz.prog 43 #[v,.int .i64 1] u fun e w'=>e = .returned (.string (txB B))∧Below u.heap.size u w' by have:=hb 1 v u hu;rw[← J] at this;exact this));rw[← Q] at N;rw[← J] at O;obtain⟨I,n1⟩:=Zcc A [124] (txB A) { data:=#[124] } rfl rfl (by simp;omega);obtain⟨E,x⟩:=Zcc (A++[124]) B (txB (A++[124])) (txB B) rfl rfl (by simp;omega);obtain⟨s1,G⟩:=eJ (txB (A++[124]));obtain⟨s2,D⟩:=eJ (txB ((A++[124])++B));rw[G] at I E x;rw[D] at E;rw[D];replace G:=qh G;have k:=qh D;clear D;replace Q:=qh Q;have aB:=qh J;clear J;have j:=qh F;clear F;have y:=qh hm;clear hm;have M:=qh hok;clear hok;have aA:(l:Int)≤0:=by omega
 clear h X C ha hb N O c i hl
 go_enter Tryz.func43, Tryz.ntmps43
 go_wp2_with (first
  | (go_at_call 81;refine(Zbl _ _ _ h60 Z.o 0 L.o).mono ?_;rintro e w' ⟨rfl,rfl⟩)
  | (go_at_call 82;refine(ZaJ _ _ _ M.o Z.o).mono ?_;rintro e w1 ⟨vx,vy,xs,ys,R,rfl,hx,hy,hb1⟩;have P:=Zd3 (a:=a) (b:=b) (p:=(5,0)) Zhf R;obtain⟨rfl,rfl⟩:=P;obtain⟨k1,k2⟩:=H.o _ hb1;have Y:=qh (((St.start w).call hb1).alloc w1.heap.size rfl #[.int .i64 5,.int .i64 0] 62);have n:=qh (hx.below ((Below.refl w1.heap.size w1).alloc (Nat.le_refl _) (.cells #[.int .i64 5,.int .i64 0] 62)));have z:=qh (hy.below ((Below.refl w1.heap.size w1).alloc (Nat.le_refl _) (.cells #[.int .i64 5,.int .i64 0] 62)));clear hb1 hx hy R)
  | (go_at_call 43;(with_reducible refine(HA.o _ _ n.o).mono ?_);rintro e w2 ⟨rfl,hb2⟩;have g:=qh (Y.o.call hb2);have V:=qh (z.o.below hb2);clear hb2)
  | (go_at_call 43;(with_reducible refine(HB.o _ _ V.o).mono ?_);rintro e w3 ⟨rfl,S⟩;have d:=qh (g.o.call S);clear S))
 go_ret;exact⟨rfl,d.o.bel⟩
theorem ZmU (a b:Ex) (h60:(Ex.both a b).post.length≤60) (ha:PrC a) (hb:PrC b):Pr0 (.both a b):=by
 intro l v w hl h;have hl:l≤1:=by have h2:l+1≤2:=hl;omega
 have hok:=ZaD _ h60;have Z:=qh h;have L:=qh (show((bnd (Ex.both a b):Nat):Int)-1=1 from rfl);have X:=h;rw[show(Ex.both a b).post=(a.post++b.post)++[(6,0)] from rfl] at X;obtain⟨bb,off,cap,rfl,U,s,r,C⟩:=Zds X
 have T:(a.post++b.post).length≤59:=by
  have h1:(Ex.both a b).post.length=(a.post++b.post).length+1:=by simp[Ex.post];omega
  omega
 have c:=Zbk a;have i:=Zbk b;have N:=ZaT 2 a (prE a);have O:=ZaT 3 b (prE b);have aC:a.post.length+b.post.length≤59:=by simpa using T
 obtain⟨m,hm⟩:=eI ((a.post++b.post).length);rw[← hm] at U C T Z;rw[← hm];have H:=qh C;have q:IntKind.i64.wrap ((m:Int)+1-1)=(m:Int):=by rw[IntWalk.i64_in _ (by omega)];omega
 obtain⟨A,Q⟩:=eI (brk 2 a (prE a));obtain⟨B,J⟩:=eI (brk 3 b (prE b));have F:prE (.both a b)=(A++[38])++B:=by rw[Q,J];simp[prE]
 rw[F];have HA:=qh (fun (v:Value) (u:World) (hu:Pairs 0 u v a.post)=>(show Calls Tryz.prog 43 #[v,.int .i64 1] u fun e w'=>e = .returned (.string (txB A))∧Below u.heap.size u w' by have:=ha 1 v u hu;rw[← Q] at this;exact this));have HB:=qh (fun (v:Value) (u:World) (hu:Pairs 0 u v b.post)=>(show Calls Tryz.prog 43 #[v,.int .i64 2] u fun e w'=>e = .returned (.string (txB B))∧Below u.heap.size u w' by have:=hb 2 v u hu;rw[← J] at this;exact this));rw[← Q] at N;rw[← J] at O;obtain⟨I,n1⟩:=Zcc A [38] (txB A) { data:=#[38] } rfl rfl (by simp;omega);obtain⟨E,x⟩:=Zcc (A++[38]) B (txB (A++[38])) (txB B) rfl rfl (by simp;omega);obtain⟨s1,G⟩:=eJ (txB (A++[38]));obtain⟨s2,D⟩:=eJ (txB ((A++[38])++B));rw[G] at I E x;rw[D] at E;rw[D];replace G:=qh G;have k:=qh D;clear D;replace Q:=qh Q;have aB:=qh J;clear J;have j:=qh F;clear F;have y:=qh hm;clear hm;have M:=qh hok;clear hok;have aA:(l:Int)≤1:=by omega
 clear h X C ha hb N O c i hl
 go_enter Tryz.func43, Tryz.ntmps43
 go_wp2_with (first
  | (go_at_call 81;refine(Zbl _ _ _ h60 Z.o 1 L.o).mono ?_;rintro e w' ⟨rfl,rfl⟩)
  | (go_at_call 82;refine(ZaJ _ _ _ M.o Z.o).mono ?_;rintro e w1 ⟨vx,vy,xs,ys,R,rfl,hx,hy,hb1⟩;have P:=Zd3 (a:=a) (b:=b) (p:=(6,0)) ZeR R;obtain⟨rfl,rfl⟩:=P;obtain⟨k1,k2⟩:=H.o _ hb1;have Y:=qh (((St.start w).call hb1).alloc w1.heap.size rfl #[.int .i64 6,.int .i64 0] 62);have n:=qh (hx.below ((Below.refl w1.heap.size w1).alloc (Nat.le_refl _) (.cells #[.int .i64 6,.int .i64 0] 62)));have z:=qh (hy.below ((Below.refl w1.heap.size w1).alloc (Nat.le_refl _) (.cells #[.int .i64 6,.int .i64 0] 62)));clear hb1 hx hy R)
  | (go_at_call 43;(with_reducible refine(HA.o _ _ n.o).mono ?_);rintro e w2 ⟨rfl,hb2⟩;have g:=qh (Y.o.call hb2);have V:=qh (z.o.below hb2);clear hb2)
  | (go_at_call 43;(with_reducible refine(HB.o _ _ V.o).mono ?_);rintro e w3 ⟨rfl,S⟩;have d:=qh (g.o.call S);clear S))
 go_ret;exact⟨rfl,d.o.bel⟩
theorem Zoh:∀ t:Ex,t.post.length≤60→PrC t:=by
 intro t
 induction t with
 | zero=>exact fun h=>Zc2 _ h ZmR
 | one=>exact fun h=>Zc2 _ h Zod
 | ltr c=>exact fun h=>Zc2 _ h (Zof c.val c.isLt)
 | neg a ha =>
  intro h;have h1:a.post.length≤60:=by simp[Ex.post] at h;omega
  exact Zc2 _ h (Zoe a h (ha h1))
 | star a ha =>
  intro h;have h1:a.post.length≤60:=by simp[Ex.post] at h;omega
  exact Zc2 _ h (ZmS a h (ha h1))
 | join a b ha hb =>
  intro h;have h1:a.post.length≤60∧b.post.length≤60:=by simp[Ex.post] at h;omega
  exact Zc2 _ h (ZmT a b h (ha h1.1) (hb h1.2))
 | alt a b ha hb =>
  intro h;have h1:a.post.length≤60∧b.post.length≤60:=by simp[Ex.post] at h;omega
  exact Zc2 _ h (Zog a b h (ha h1.1) (hb h1.2))
 | both a b ha hb =>
  intro h;have h1:a.post.length≤60∧b.post.length≤60:=by simp[Ex.post] at h;omega
  exact Zc2 _ h (ZmU a b h (ha h1.1) (hb h1.2))
theorem ZaR (es:List (Int × Int)) (v:Value) (w:World) (hl:es.length≤1000) (h:Pairs 0 w v es) :
  Calls Tryz.prog 18 #[v] w fun e w'=>e = .returned (.string (txB (ZeJ es)))∧Below w.heap.size w w':=by
 cases hok:exOk es
 ·rw[ZgE hok];have B:=qh hok;clear hok
  go_enter Tryz.func18, Tryz.ntmps18
  go_wp2_with (go_at_call 42;refine(ZbE es _ _ (by omega) h _ B.o).mono ?_;rintro e w1 ⟨rfl,hb⟩;replace hb:=qh hb);go_ret;exact⟨rfl,hb.o⟩
 obtain⟨t,rfl,C,ht⟩:=ZgD hok;rw[ht];have F:=qh (fun (u:World) (hu:Pairs 0 u v t.post)=>(show Calls Tryz.prog 43 #[v,.int .i64 0] u fun e w'=>e = .returned (.string (txB (prE t)))∧Below u.heap.size u w' by have:=Zoh t C 0 v u hu;rw[show brk (0+1) t (prE t)=prE t from Zhd t] at this;exact this));have E:=qh h;have B:=qh hok;clear hok;have G:=qh ht;clear ht;clear h
 go_enter Tryz.func18, Tryz.ntmps18
 go_wp2_with (first
  | (go_at_call 42;refine(ZbE t.post _ _ (by omega) E.o _ B.o).mono ?_;rintro e w1 ⟨rfl,hb⟩;replace hb:=qh hb)
  | (go_at_call 43;refine(F.o _ (E.o.below hb.o)).mono ?_;rintro e w2 ⟨rfl,hb2⟩;have D:=qh hb2;clear hb2))
 go_ret;exact⟨rfl,hb.o.trans (D.o.mono hb.o.size)⟩
def endI (S:List Nat) (x:PS):Int:=if x.2.2=true then -1 else((S.length-x.2.1.length:Nat):Int)
def RRs (S:List Nat) (x:PS) (w:World) (e:Ending) (w':World):Prop:=∃ a c,e = .returned (.tuple #[.slice a x.1.length c,.int .i64 (endI S x)])∧St w w' [Ent.row 62 2 (.slice a x.1.length c) x.1.length (x.1.flatMap Zaa)]
def ZlO (n:Nat):Prop:=∀ (l:Nat) (S:List Nat) (i:Nat) (w:World),1≤l→l≤6→fuP l (S.drop i)≤n→S.length≤120→isT S→i≤S.length→Calls Tryz.prog 41 #[.string (txB S),.int .i64 (i:Int),.int .i64 ((l:Int)-1)] w fun e w'=>RRs S (rdP jS n l (S.drop i)) w e w'
theorem Zcw {S:List Nat} {i c:Nat} {r:List Nat} (h:S.drop i=c::r):i<S.length∧S.getD i 0=c∧S.drop (i+1)=r∧S.length=i+1+r.length:=by
 have hl:=congrArg List.length h;rw[List.length_drop,List.length_cons] at hl;have hi:i<S.length:=by omega
 rw[List.drop_eq_getElem_cons hi] at h;obtain⟨h1,h2⟩:=List.cons.inj h;exact⟨hi,by simp[hi,h1],h2,by omega⟩
theorem Zmp {S:List Nat} {i:Nat} (h:S.drop i=[]) (hi:i≤S.length):i=S.length:=by have hl:=congrArg List.length h;rw[List.length_drop,List.length_nil] at hl;omega
theorem ZkS {S q:List Nat} (h:q <:+ S):S.drop (S.length-q.length)=q∧S.length-q.length≤S.length:=⟨(Zqf h).symm,by omega⟩
theorem RRs.nil (S:List Nat) (q:List Nat) {w w':World} {a:Option Addr} {c:Nat} (hS:St w w' [Ent.row 62 2 (.slice a 0 c) 0 []]):RRs S ([],q,true) w (.returned (.tuple #[.slice a 0 c,.int .i64 (-1)])) w':=⟨a,c,rfl,hS⟩
theorem Zgc {w0 w:World} {L:List Ent} (h:St w0 w L):St w0 (w.alloc (.cells #[] 62)) (L++[Ent.row 62 2 (.slice (some ⟨w.heap.size,0,none⟩) 0 0) 0 []]):=by have h1:=(h.alloc w.heap.size rfl #[] 62).boxrow (b:=w.heap.size) (T:=62) L.length 0 2 [] (by simp) rfl (by unfold maxLen;omega);simpa using h1
theorem ZsQ (n:Nat) (hC:ZlO n) (S:List Nat) (i:Nat) (w:World) (hn:fuP 6 (S.drop i)≤n+1) (hl:S.length≤120) (ht:isT S) (hi:i≤S.length) :
  Calls Tryz.prog 41 #[.string (txB S),.int .i64 (i:Int),.int .i64 5] w fun e w'=>RRs S (rdP jS (n+1) 6 (S.drop i)) w e w':=by
 have hs:=ZaE S;have V:=qh ht;have s:=qh (Zgc (St.start w));cases hr:S.drop i with
 | nil =>
  have X:=Zmp hr hi;have aA:(S.length:Int)≤(i:Int):=by omega
  show Calls _ _ _ _ fun e w'=>RRs S ([],[],true) w e w'
  have U:=qh hr;clear hr;replace X:=qh X;clear hi hn
  go_enter Tryz.func41, Tryz.ntmps41
  go_wp2;refine bodyPost_ret (v:=.tuple #[.slice (some ⟨w.heap.size,0,none⟩) 0 0,.int .i64 (-1)]) (by simp[results,Tryz.results41,go_sem]) rfl ?_;exact RRs.nil S [] s.o
 | cons c r1 =>
  obtain⟨r,hc,Y,hlen⟩:=Zcw hr;have y:c<256:=by rw[← hc];exact ht _ (ZbN r)
  have B:rdP jS (n+1) 6 (c::r1)=match Zf3 c with|some p=>([p],r1,false)|none=>if c=40 then brkP (rdP jS n 1 r1) else([],r1,true):=rfl
  have aI:(i:Int)<(S.length:Int):=by omega
  have aE:IntKind.i64.wrap ((i:Int)+1)=(i:Int)+1:=IntWalk.i64_in _ (by omega);have C:endI S ([((3:Int),(0:Int))],r1,false)=(i:Int)+1:=by unfold endI;simp;omega
  have m:=fun u=>Zbx (l:=S) (i:=i) (by omega) V.o u
  rw[hc] at m;have U:=qh hr;clear hr;replace hc:=qh hc;have H:=qh Y;clear Y;by_cases c48:c=48
  ·subst c48;rw[show rdP jS (n+1) 6 (48::r1)=([(1,0)],r1,false) from B];have Z:=qh (((St.start w).alloc w.heap.size rfl #[.int .i64 1,.int .i64 0] 62).boxrow 0 1 2 [.int .i64 1,.int .i64 0] rfl rfl (by unfold maxLen;omega));have E:=qh C;have F:=qh B;clear B;clear C hn hi
   go_enter Tryz.func41, Tryz.ntmps41
   go_wp2;refine bodyPost_ret (v:=.tuple #[.slice (some ⟨w.heap.size,0,none⟩) 1 1,.int .i64 ((i:Int)+1)]) (by simp[results,Tryz.results41,go_sem]) rfl ?_;exact⟨_,_,by rw[show endI S ([(1,0)],r1,false)=(i:Int)+1 from E.o];rfl,Z.o⟩
  by_cases c49:c=49
  ·subst c49;rw[show rdP jS (n+1) 6 (49::r1)=([(2,0)],r1,false) from B];have Z:=qh (((St.start w).alloc w.heap.size rfl #[.int .i64 2,.int .i64 0] 62).boxrow 0 1 2 [.int .i64 2,.int .i64 0] rfl rfl (by unfold maxLen;omega));have E:=qh C;have F:=qh B;clear B;clear C hn hi
   go_enter Tryz.func41, Tryz.ntmps41
   go_wp2;refine bodyPost_ret (v:=.tuple #[.slice (some ⟨w.heap.size,0,none⟩) 1 1,.int .i64 ((i:Int)+1)]) (by simp[results,Tryz.results41,go_sem]) rfl ?_;exact⟨_,_,by rw[show endI S ([(2,0)],r1,false)=(i:Int)+1 from E.o];rfl,Z.o⟩
  have n1:((c:Int)=48)=False:=by simp;omega
  have n2:((c:Int)=49)=False:=by simp;omega
  by_cases cl:97≤c∧c≤99
  ·have hp:Zf3 c=some (3,(c:Int)-97):=by unfold Zf3;rw[if_neg c48,if_neg c49,if_pos cl]
   rw[hp] at B;rw[B];have g1:(97:Int)≤(c:Int):=by omega
   have g2:(c:Int)<100:=by omega
   have aG:IntKind.u8.wrap ((c:Int)-97)=(c:Int)-97:=IntWalk.u8_in _ (by omega);have aF:IntKind.i64.wrap ((c:Int)-97)=(c:Int)-97:=IntWalk.i64_in _ (by omega);have Z:=qh (((St.start w).alloc w.heap.size rfl #[.int .i64 3,.int .i64 ((c:Int)-97)] 62).boxrow 0 1 2 [.int .i64 3,.int .i64 ((c:Int)-97)] rfl rfl (by unfold maxLen;omega));have E:=qh C;have F:=qh B;clear B;have a:=qh hp;clear hp;clear C hn hi
   go_enter Tryz.func41, Tryz.ntmps41
   go_wp2;refine bodyPost_ret (v:=.tuple #[.slice (some ⟨w.heap.size,0,none⟩) 1 1,.int .i64 ((i:Int)+1)]) (by simp[results,Tryz.results41,go_sem]) rfl ?_;exact⟨_,_,by rw[show endI S ([(3,(c:Int)-97)],r1,false)=(i:Int)+1 from E.o];rfl,Z.o⟩
  have hp:Zf3 c=none:=by unfold Zf3;rw[if_neg c48,if_neg c49,if_neg cl]
  rw[hp] at B;have Q:(c:Int)<97∨(97≤(c:Int)∧100≤(c:Int)):=by omega
  have a:=qh hp;clear hp;by_cases c40:c=40
  ·subst c40;rw[show rdP jS (n+1) 6 (40::r1)=brkP (rdP jS n 1 r1) from B];have O:=hC 1 S (i+1) w (by omega) (by omega) (by rw[H.o];unfold fuP at hn ⊢;rw[U.o] at hn;simp at hn;omega) hl ht (by omega);rw[H.o] at O;have I:=(ZeC jS n 1 r1).trans (by rw[← H.o];exact List.drop_suffix _ _:r1 <:+ S);obtain⟨x,hx⟩:=eJ (rdP jS n 1 r1);rw[hx] at O I ⊢;obtain⟨es,q,fl⟩:=x;have P:=qh (show Calls Tryz.prog 41 #[.string (txB S),.int .i64 ((i:Int)+1),.int .i64 0] w fun e w'=>RRs S (es,q,fl) w e w' from O);obtain⟨J,M⟩:=ZkS I;simp only at J M;have F:=qh B;clear B;have aD:=qh hx;clear hx;clear O hn hi n1 n2 c48 c49 cl Q C I;cases fl with
   | true =>
    have hb:brkP (es,q,true)=([],q,true):=by cases q<;>rfl
    rw[hb];replace hb:=qh hb;clear J M
    go_enter Tryz.func41, Tryz.ntmps41
    go_wp2_with (go_at_call 41;refine(P.o).mono ?_;rintro e w1 ⟨a1,c1,rfl,D⟩;have G:=qh ((Zgc D).pick [1] (by decide));simp only[show endI S (es,q,true) = -1 from rfl];clear D);refine bodyPost_ret (v:=.tuple #[.slice (some ⟨w1.heap.size,0,none⟩) 0 0,.int .i64 (-1)]) (by simp[results,Tryz.results41,go_sem]) rfl ?_;exact RRs.nil S q G.o
   | false =>
    cases q with
    | nil =>
     have he:endI S (es,[],false)=(S.length:Int):=rfl;clear J M
     go_enter Tryz.func41, Tryz.ntmps41
     go_wp2_with (go_at_call 41;refine(P.o).mono ?_;rintro e w1 ⟨a1,c1,rfl,D⟩;have G:=qh ((Zgc D).pick [1] (by decide));simp only[he];clear D);refine bodyPost_ret (v:=.tuple #[.slice (some ⟨w1.heap.size,0,none⟩) 0 0,.int .i64 (-1)]) (by simp[results,Tryz.results41,go_sem]) rfl ?_;exact RRs.nil S [] G.o
    | cons d q =>
     obtain⟨b,N,R,hjl⟩:=Zcw J;obtain⟨j,hj⟩:=eJ (S.length-(d::q).length);rw[hj] at b N R hjl;have he:endI S (es,d::q,false)=(j:Int):=by unfold endI;simp only[Bool.false_eq_true,if_false,hj]
     have aK:(j:Int)<(S.length:Int):=by omega
     have aH:IntKind.i64.wrap ((j:Int)+1)=(j:Int)+1:=IntWalk.i64_in _ (by omega);have g:=fun u=>Zbx (l:=S) (i:=j) (by omega) V.o u
     rw[N] at g;have L:endI S (es,q,false)=(j:Int)+1:=by unfold endI;simp only[Bool.false_eq_true,if_false];omega
     have T:=qh L;have aJ:=qh hj;clear hj;have aC:=qh N;clear N;have z:=qh R;clear R;have aB:=qh hjl;clear hjl;clear J M L;by_cases h41:d=41
     ·subst h41
      go_enter Tryz.func41, Tryz.ntmps41
      go_wp2_with (go_at_call 41;refine(P.o).mono ?_;rintro e w1 ⟨a1,c1,rfl,D⟩;have k:=qh D;simp only[he];clear D);refine bodyPost_ret (v:=.tuple #[.slice a1 es.length c1,.int .i64 ((j:Int)+1)]) (by simp[results,Tryz.results41,go_sem]) rfl ?_;exact⟨a1,c1,by rw[show brkP (es,41::q,false)=(es,q,false) from rfl,T.o],k.o⟩
     have hb:brkP (es,d::q,false)=([],d::q,true):=if_neg h41;rw[hb];have n4:((d:Int) != 41)=true:=by simp;omega
     replace hb:=qh hb
     go_enter Tryz.func41, Tryz.ntmps41
     go_wp2_with (go_at_call 41;refine(P.o).mono ?_;rintro e w1 ⟨a1,c1,rfl,D⟩;have G:=qh ((Zgc D).pick [1] (by decide));simp only[he];clear D);refine bodyPost_ret (v:=.tuple #[.slice (some ⟨w1.heap.size,0,none⟩) 0 0,.int .i64 (-1)]) (by simp[results,Tryz.results41,go_sem]) rfl ?_;exact RRs.nil S (d::q) G.o
  rw[if_neg c40] at B;rw[B];have n3:((c:Int)=40)=False:=by simp;omega
  have F:=qh B;clear B;clear C hn hi;rcases Q with g1|⟨g1,g2⟩
  ·go_enter Tryz.func41, Tryz.ntmps41
   go_wp2;refine bodyPost_ret (v:=.tuple #[.slice (some ⟨w.heap.size,0,none⟩) 0 0,.int .i64 (-1)]) (by simp[results,Tryz.results41,go_sem]) rfl ?_;exact RRs.nil S r1 s.o
  go_enter Tryz.func41, Tryz.ntmps41
  go_wp2;refine bodyPost_ret (v:=.tuple #[.slice (some ⟨w.heap.size,0,none⟩) 0 0,.int .i64 (-1)]) (by simp[results,Tryz.results41,go_sem]) rfl ?_;exact RRs.nil S r1 s.o
def enM (S:List Nat) (v:Value):Nat:=if intOf v<0 then 0 else S.length+1-(intOf v).toNat
theorem ZlD (S:List Nat):enM S (.int .i64 (-1))=0:=rfl
theorem ZcY (S:List Nat) (j:Nat):enM S (.int .i64 (j:Int))=S.length+1-j:=by show(if (j:Int)<0 then 0 else S.length+1-(j:Int).toNat)=_;rw[if_neg (by omega),Int.toNat_natCast]
theorem ZsV (n:Nat) (hC:ZlO n) (S:List Nat) (i:Nat) (w:World) (hn:fuP 1 (S.drop i)≤n+1) (hl:S.length≤120) (ht:isT S) (hi:i≤S.length) :
  Calls Tryz.prog 41 #[.string (txB S),.int .i64 (i:Int),.int .i64 0] w fun e w'=>RRs S (rdP jS (n+1) 1 (S.drop i)) w e w':=by
 have hs:=ZaE S;have aK:=qh ht;obtain⟨j0,hj,aU,g,D⟩:=info_parts Tryz.infoPart;obtain⟨r,hr⟩:=eJ (S.drop i);have k:r <:+ S:=by rw[← hr];exact List.drop_suffix _ _
 have bY:r.length≤120:=by have:=k.length_le;omega
 rw[hr] at hn ⊢;have aM:rdP jS (n+1) 1 r=ZaX (rdP jS n 2) jS 1 n (rdP jS n 2 r).1 (rdP jS n 2 r).2.1 (rdP jS n 2 r).2.2:=rfl;rw[aM];have hm:=ZdE jS n 2 r;have aO:=(ZeC jS n 2 r).trans k;have aD:=hC 2 S i w (by omega) (by omega) (by rw[hr];unfold fuP at hn ⊢;omega) hl ht hi;rw[hr] at aD;obtain⟨x,hx⟩:=eJ (rdP jS n 2 r);rw[hx] at aD hm aO ⊢;obtain⟨J,q0,Q⟩:=x;obtain⟨y,hy⟩:=eJ (ZaX (rdP jS n 2) jS 1 n J q0 Q);have T:ZaX (rdP jS n 2) jS 1 n (J,q0,Q).1 (J,q0,Q).2.1 (J,q0,Q).2.2=y:=hy;rw[T];have bH:=qh (show Calls Tryz.prog 41 #[.string (txB S),.int .i64 (i:Int),.int .i64 1] w fun e w'=>RRs S (J,q0,Q) w e w' from aD);have bD:=qh hm;have aY:=qh aO;have Hn:=qh hn;replace aM:=qh aM;have bU:=qh hx;clear hx;have bI:=qh T;clear T;have aS:=qh hy;clear hy;replace hr:=qh hr;have bN:=qh k;clear k;clear aD hm aO hn hi
 go_enter Tryz.func41, Tryz.ntmps41
 go_wp2_with (go_at_call 41;refine(bH.o).mono ?_;rintro e w1 ⟨a1,c1,rfl,q⟩;replace q:=qh q)
 go_loopw [12,13] (fun ve vi wr=>(∃ (a:Option Addr) (c:Nat) (es:List (Int × Int)),ve = .slice a es.length c∧vi = .int .i64 (-1)∧y.1=es∧y.2.2=true∧St w wr [Ent.row 62 2 (.slice a es.length c) es.length (es.flatMap Zaa)]) ∨
   (∃ (a:Option Addr) (c:Nat) (es:List (Int × Int)) (r':List Nat) (kk:Nat),ve = .slice a es.length c∧vi = .int .i64 ((S.length-r'.length:Nat):Int)∧(ZaX (rdP jS n 2) jS 1 kk es r' false=y∧r'.length<kk)∧r' <:+ S∧meas r.length (es,r',false)∧St w wr [Ent.row 62 2 (.slice a es.length c) es.length (es.flatMap Zaa)])) (fun _ vi _=>enM S vi)
 case atStart =>
  cases Q with
  | true =>
   have D:y=(J,q0,true):=by rw[← aS.o];cases n<;>rfl
   exact .inl ⟨a1,c1,J,rfl,rfl,by rw[D],by rw[D],q.o⟩
  | false =>obtain⟨m1,m2,m3⟩:=bD.o;obtain⟨m4,m5⟩:=m3 rfl;simp only at m1 m2 m4 m5;exact .inr ⟨a1,c1,J,q0,n,rfl,rfl,⟨aS.o,by have:=Hn.o;unfold fuP at this;omega⟩,aY.o,⟨m1,m2,fun _=>⟨m4,m5⟩⟩,q.o⟩
 case round =>
  rcases hrel with⟨a,c,es,rfl,rfl,g,D,hS⟩|⟨a,c,es,r',k1,rfl,rfl,⟨B,bC⟩,I,F,hS⟩
  ·have O:=qh hS;clear hS;go_wp2;subst g;refine bodyPost_ret (v:=.tuple #[.slice a y.1.length c,.int .i64 (-1)]) (by simp[results,Tryz.results41,go_sem]) rfl ?_;exact⟨a,c,by rw[show endI S y = -1 by unfold endI;rw[if_pos D]],O.o⟩
  obtain⟨kk,rfl⟩:∃ kk,k1=kk+1:=⟨k1-1,by omega⟩;cases r' with
  | nil =>
   have H:y=(es,[],false):=B.symm;have E:=qh H;have O:=qh hS;have hle:(S.length:Int)≤((S.length-0:Nat):Int):=by omega
   clear B H F I;clear hS;simp only[List.length_nil,Nat.sub_zero];go_wp2;refine bodyPost_ret (v:=.tuple #[.slice a es.length c,.int .i64 (S.length:Int)]) (by simp[results,Tryz.results41,go_sem]) rfl ?_;rw[E.o];exact⟨a,c,rfl,O.o⟩
  | cons d G =>
   have O:=qh hS;obtain⟨aN,bW⟩:=ZkS I;obtain⟨aJ,U,aW,hjl⟩:=Zcw aN;obtain⟨j,m⟩:=eJ (S.length-(d::G).length);rw[m] at aJ U aW hjl;rw[m];have cA:(j:Int)<(S.length:Int):=by omega
   have bZ:(0:Int)≤(j:Int):=by omega
   have bX:IntKind.i64.wrap ((j:Int)+1)=(j:Int)+1:=IntWalk.i64_in _ (by omega);have bF:d<256:=by rw[← U];exact aK.o _ (ZbN aJ)
   have bA:=fun u=>Zbx (l:=S) (i:=j) aJ aK.o u
   rw[U] at bA;have bV:es.length≤1000:=by have:=F.2.1;simp only at this;omega
   have bK:S.length=j+1+G.length:=hjl;have aX:=qh m;clear m;have bQ:=qh U;clear U;have bO:=qh hjl;clear hjl;have bM:=qh aN;clear aN;clear hS;by_cases hds:d=124
   ·subst hds;have B:ZaX (rdP jS n 2) jS 1 kk (es++(rdP jS n 2 G).1++[(opK 1,0)]) (rdP jS n 2 G).2.1 (rdP jS n 2 G).2.2=y:=B;have V:S.drop (j+1)=G:=aW;have N:=ZdE jS n 2 G;have Y:=(ZeC jS n 2 G).trans (by rw[← V];exact List.drop_suffix _ _:G <:+ S);have bT:(G).length≤r.length:=by have:=F.1;simp at this ⊢;omega
    have aL:=fun (u:World)=>(show Calls Tryz.prog 41 #[.string (txB S),.int .i64 ((j:Int)+1),.int .i64 1] u fun e w'=>RRs S (rdP jS n 2 G) u e w' from by have h:=hC 2 S (j+1) u (by omega) (by omega) (by rw[V];have:=Hn.o;unfold fuP at this ⊢;omega) hl aK.o (by omega);rw[V] at h;exact h)
    obtain⟨x9,s⟩:=eJ (rdP jS n 2 G);rw[s] at N Y B;rw[s] at aL;obtain⟨P,q9,bB⟩:=x9;have bL:P.length≤1000:=by have:=N.2.1;simp only at this;omega
    have aZ:=qh aL;obtain⟨z,X⟩:=eJ (es++P++[(5,0)]);simp only at B;rw[show opK 1=5 from rfl,X] at B;have C:z.length=es.length+P.length+1:=by rw[← X];simp;omega
    have R:z.flatMap Zaa=(es.flatMap Zaa++P.flatMap Zaa)++[.int .i64 5,.int .i64 0]:=by rw[← X];simp[Zaa]
    have aT:=qh N;have aH:=qh Y;have aP:=qh F;have bG:=qh I;have bJ:=qh V;clear V;have aC:=qh C;clear C;have p:=qh R;clear R;have bS:=qh s;clear s;have bP:=qh X;clear X;have E:=qh B;clear B;clear aL N F Y I
    go_wp2_with (first
     | (go_at_call 41;refine(aZ.o _).mono ?_;rintro e w2 ⟨a9,c9,rfl,aR⟩;have aB:=qh (show St w w2 [Ent.row 62 2 (.slice a es.length c) es.length (es.flatMap Zaa),Ent.row 62 2 (.slice a9 P.length c9) P.length (P.flatMap Zaa)] from O.o.cat aR);clear aR)
     | (at_builtin;refine Zak _ rfl _ _ _ rfl _ 62 j0 PZ 2 16 Tryz.underlying28 hj aU g D rfl (by omega) _ es.length _ rfl (aB.o.row 0 rfl) _ P.length (P.flatMap Zaa) rfl ((Zab (aB.o.row 1 rfl)).sl (by omega) |>.mono (Nat.zero_le _)) ZcC (by unfold maxLen;omega) (by omega) aB.o.size ?_;intro a6 c6 w6 b M aG;have aV:=(aB.o.appS 0 rfl b M aG).pick [0] (by decide);have aQ:St w _ [Ent.row 62 2 (.slice a6 (es.length+P.length) c6) (es.length+P.length) (es.flatMap Zaa++P.flatMap Zaa),Ent.row 62 2 (.slice (some ⟨w6.heap.size,0,none⟩) 1 1) 1 [.int .i64 5,.int .i64 0]]:=(aV.alloc w6.heap.size rfl #[.int .i64 5,.int .i64 0] 62).boxrow 1 1 2 [.int .i64 5,.int .i64 0] rfl rfl (by unfold maxLen;omega);have aA:=qh aQ;clear b M aG aV aQ)
     | (at_builtin;refine Zak _ rfl _ _ _ rfl _ 62 j0 PZ 2 16 Tryz.underlying28 hj aU g D rfl (by omega) _ (es.length+P.length) _ rfl (aA.o.row 0 rfl) _ 1 [.int .i64 5,.int .i64 0] rfl ((Zab (aA.o.row 1 rfl)).sl (by omega) |>.mono (Nat.zero_le _)) (by intro u hu;simp at hu;rcases hu with rfl|rfl<;>rfl) (by unfold maxLen;omega) (by omega) aA.o.size ?_;intro a7 c7 w7 Z L aE;have bE:=qh ((aA.o.appS 0 rfl Z L aE).pick [0] (by decide));clear Z L aE))
    have N:=aT.o;have F:=aP.o;have C:=aC.o;have B:=E.o;have aF:St w w7 [Ent.row 62 2 (.slice a7 z.length c7) z.length (z.flatMap Zaa)]:=by rw[C,p.o];exact bE.o
    rw[← C];cases bB with
    | true =>
     have D:y=(z,q9,true):=by rw[← B];cases kk<;>rfl
     go_roundw
     case rel=>exact .inl ⟨a7,c7,z,rfl,rfl,by rw[D],by rw[D],aF⟩
     case measure =>show enM S (.int .i64 (-1))<enM S (.int .i64 (j:Int));rw[ZlD,ZcY];omega
    | false =>
     obtain⟨-,-,b3⟩:=N;obtain⟨b4,b5⟩:=b3 rfl;obtain⟨a1,a2,a3⟩:=F;obtain⟨a4,a5⟩:=a3 rfl;simp only[List.length_cons] at b4 b5 a1 a2 a4 a5;have aI:meas r.length (z,q9,false):=⟨by simp only;omega,by simp only;omega,fun _=>by simp only;omega⟩;have bR:=aH.o.length_le;go_roundw
     case rel=>exact .inr ⟨a7,c7,z,q9,kk,rfl,rfl,⟨B,by simp only[List.length_cons] at bC;omega⟩,aH.o,aI,aF⟩
     case measure =>show enM S (.int .i64 ((S.length-q9.length:Nat):Int))<enM S (.int .i64 (j:Int));rw[ZcY,ZcY];omega
   have H:y=(es,d::G,false):=by
    rw[← B];unfold ZaX;rw[if_neg (by simp)];have hc:Zfv jS 1 (d::G)=none:=by show(if 1=1∧d=124∨1=2∧d=38 then some G else if 1=3∧jS d=true then some (d::G) else none)=none;rw[if_neg (by omega),if_neg (by omega)]
    rw[hc]
   have n4:((d:Int)=124)=False:=by simp;omega
   have E:=qh H;clear B H F I;go_wp2;refine bodyPost_ret (v:=.tuple #[.slice a es.length c,.int .i64 (j:Int)]) (by simp[results,Tryz.results41,go_sem]) rfl ?_;rw[E.o];exact⟨a,c,by rw[show endI S (es,d::G,false)=(j:Int) by unfold endI;simp only[Bool.false_eq_true,if_false];rw[aX.o]],O.o⟩
theorem ZsU (n:Nat) (hC:ZlO n) (S:List Nat) (i:Nat) (w:World) (hn:fuP 2 (S.drop i)≤n+1) (hl:S.length≤120) (ht:isT S) (hi:i≤S.length) :
  Calls Tryz.prog 41 #[.string (txB S),.int .i64 (i:Int),.int .i64 1] w fun e w'=>RRs S (rdP jS (n+1) 2 (S.drop i)) w e w':=by
 have hs:=ZaE S;have aK:=qh ht;obtain⟨j0,hj,aU,g,D⟩:=info_parts Tryz.infoPart;obtain⟨r,hr⟩:=eJ (S.drop i);have k:r <:+ S:=by rw[← hr];exact List.drop_suffix _ _
 have bY:r.length≤120:=by have:=k.length_le;omega
 rw[hr] at hn ⊢;have aM:rdP jS (n+1) 2 r=ZaX (rdP jS n 3) jS 2 n (rdP jS n 3 r).1 (rdP jS n 3 r).2.1 (rdP jS n 3 r).2.2:=rfl;rw[aM];have hm:=ZdE jS n 3 r;have aO:=(ZeC jS n 3 r).trans k;have aD:=hC 3 S i w (by omega) (by omega) (by rw[hr];unfold fuP at hn ⊢;omega) hl ht hi;rw[hr] at aD;obtain⟨x,hx⟩:=eJ (rdP jS n 3 r);rw[hx] at aD hm aO ⊢;obtain⟨J,q0,Q⟩:=x;obtain⟨y,hy⟩:=eJ (ZaX (rdP jS n 3) jS 2 n J q0 Q);have T:ZaX (rdP jS n 3) jS 2 n (J,q0,Q).1 (J,q0,Q).2.1 (J,q0,Q).2.2=y:=hy;rw[T];have bH:=qh (show Calls Tryz.prog 41 #[.string (txB S),.int .i64 (i:Int),.int .i64 2] w fun e w'=>RRs S (J,q0,Q) w e w' from aD);have bD:=qh hm;have aY:=qh aO;have Hn:=qh hn;replace aM:=qh aM;have bU:=qh hx;clear hx;have bI:=qh T;clear T;have aS:=qh hy;clear hy;replace hr:=qh hr;have bN:=qh k;clear k;clear aD hm aO hn hi
 go_enter Tryz.func41, Tryz.ntmps41
 go_wp2_with (go_at_call 41;refine(bH.o).mono ?_;rintro e w1 ⟨a1,c1,rfl,q⟩;replace q:=qh q)
 go_loopw [12,13] (fun ve vi wr=>(∃ (a:Option Addr) (c:Nat) (es:List (Int × Int)),ve = .slice a es.length c∧vi = .int .i64 (-1)∧y.1=es∧y.2.2=true∧St w wr [Ent.row 62 2 (.slice a es.length c) es.length (es.flatMap Zaa)]) ∨
   (∃ (a:Option Addr) (c:Nat) (es:List (Int × Int)) (r':List Nat) (kk:Nat),ve = .slice a es.length c∧vi = .int .i64 ((S.length-r'.length:Nat):Int)∧(ZaX (rdP jS n 3) jS 2 kk es r' false=y∧r'.length<kk)∧r' <:+ S∧meas r.length (es,r',false)∧St w wr [Ent.row 62 2 (.slice a es.length c) es.length (es.flatMap Zaa)])) (fun _ vi _=>enM S vi)
 case atStart =>
  cases Q with
  | true =>
   have D:y=(J,q0,true):=by rw[← aS.o];cases n<;>rfl
   exact .inl ⟨a1,c1,J,rfl,rfl,by rw[D],by rw[D],q.o⟩
  | false =>obtain⟨m1,m2,m3⟩:=bD.o;obtain⟨m4,m5⟩:=m3 rfl;simp only at m1 m2 m4 m5;exact .inr ⟨a1,c1,J,q0,n,rfl,rfl,⟨aS.o,by have:=Hn.o;unfold fuP at this;omega⟩,aY.o,⟨m1,m2,fun _=>⟨m4,m5⟩⟩,q.o⟩
 case round =>
  rcases hrel with⟨a,c,es,rfl,rfl,g,D,hS⟩|⟨a,c,es,r',k1,rfl,rfl,⟨B,bC⟩,I,F,hS⟩
  ·have O:=qh hS;clear hS;go_wp2;subst g;refine bodyPost_ret (v:=.tuple #[.slice a y.1.length c,.int .i64 (-1)]) (by simp[results,Tryz.results41,go_sem]) rfl ?_;exact⟨a,c,by rw[show endI S y = -1 by unfold endI;rw[if_pos D]],O.o⟩
  obtain⟨kk,rfl⟩:∃ kk,k1=kk+1:=⟨k1-1,by omega⟩;cases r' with
  | nil =>
   have H:y=(es,[],false):=B.symm;have E:=qh H;have O:=qh hS;have hle:(S.length:Int)≤((S.length-0:Nat):Int):=by omega
   clear B H F I;clear hS;simp only[List.length_nil,Nat.sub_zero];go_wp2;refine bodyPost_ret (v:=.tuple #[.slice a es.length c,.int .i64 (S.length:Int)]) (by simp[results,Tryz.results41,go_sem]) rfl ?_;rw[E.o];exact⟨a,c,rfl,O.o⟩
  | cons d G =>
   have O:=qh hS;obtain⟨aN,bW⟩:=ZkS I;obtain⟨aJ,U,aW,hjl⟩:=Zcw aN;obtain⟨j,m⟩:=eJ (S.length-(d::G).length);rw[m] at aJ U aW hjl;rw[m];have cA:(j:Int)<(S.length:Int):=by omega
   have bZ:(0:Int)≤(j:Int):=by omega
   have bX:IntKind.i64.wrap ((j:Int)+1)=(j:Int)+1:=IntWalk.i64_in _ (by omega);have bF:d<256:=by rw[← U];exact aK.o _ (ZbN aJ)
   have bA:=fun u=>Zbx (l:=S) (i:=j) aJ aK.o u
   rw[U] at bA;have bV:es.length≤1000:=by have:=F.2.1;simp only at this;omega
   have bK:S.length=j+1+G.length:=hjl;have aX:=qh m;clear m;have bQ:=qh U;clear U;have bO:=qh hjl;clear hjl;have bM:=qh aN;clear aN;clear hS;by_cases hds:d=38
   ·subst hds;have B:ZaX (rdP jS n 3) jS 2 kk (es++(rdP jS n 3 G).1++[(opK 2,0)]) (rdP jS n 3 G).2.1 (rdP jS n 3 G).2.2=y:=B;have V:S.drop (j+1)=G:=aW;have N:=ZdE jS n 3 G;have Y:=(ZeC jS n 3 G).trans (by rw[← V];exact List.drop_suffix _ _:G <:+ S);have bT:(G).length≤r.length:=by have:=F.1;simp at this ⊢;omega
    have aL:=fun (u:World)=>(show Calls Tryz.prog 41 #[.string (txB S),.int .i64 ((j:Int)+1),.int .i64 2] u fun e w'=>RRs S (rdP jS n 3 G) u e w' from by have h:=hC 3 S (j+1) u (by omega) (by omega) (by rw[V];have:=Hn.o;unfold fuP at this ⊢;omega) hl aK.o (by omega);rw[V] at h;exact h)
    obtain⟨x9,s⟩:=eJ (rdP jS n 3 G);rw[s] at N Y B;rw[s] at aL;obtain⟨P,q9,bB⟩:=x9;have bL:P.length≤1000:=by have:=N.2.1;simp only at this;omega
    have aZ:=qh aL;obtain⟨z,X⟩:=eJ (es++P++[(6,0)]);simp only at B;rw[show opK 2=6 from rfl,X] at B;have C:z.length=es.length+P.length+1:=by rw[← X];simp;omega
    have R:z.flatMap Zaa=(es.flatMap Zaa++P.flatMap Zaa)++[.int .i64 6,.int .i64 0]:=by rw[← X];simp[Zaa]
    have aT:=qh N;have aH:=qh Y;have aP:=qh F;have bG:=qh I;have bJ:=qh V;clear V;have aC:=qh C;clear C;have p:=qh R;clear R;have bS:=qh s;clear s;have bP:=qh X;clear X;have E:=qh B;clear B;clear aL N F Y I
    go_wp2_with (first
     | (go_at_call 41;refine(aZ.o _).mono ?_;rintro e w2 ⟨a9,c9,rfl,aR⟩;have aB:=qh (show St w w2 [Ent.row 62 2 (.slice a es.length c) es.length (es.flatMap Zaa),Ent.row 62 2 (.slice a9 P.length c9) P.length (P.flatMap Zaa)] from O.o.cat aR);clear aR)
     | (at_builtin;refine Zak _ rfl _ _ _ rfl _ 62 j0 PZ 2 16 Tryz.underlying28 hj aU g D rfl (by omega) _ es.length _ rfl (aB.o.row 0 rfl) _ P.length (P.flatMap Zaa) rfl ((Zab (aB.o.row 1 rfl)).sl (by omega) |>.mono (Nat.zero_le _)) ZcC (by unfold maxLen;omega) (by omega) aB.o.size ?_;intro a6 c6 w6 b M aG;have aV:=(aB.o.appS 0 rfl b M aG).pick [0] (by decide);have aQ:St w _ [Ent.row 62 2 (.slice a6 (es.length+P.length) c6) (es.length+P.length) (es.flatMap Zaa++P.flatMap Zaa),Ent.row 62 2 (.slice (some ⟨w6.heap.size,0,none⟩) 1 1) 1 [.int .i64 6,.int .i64 0]]:=(aV.alloc w6.heap.size rfl #[.int .i64 6,.int .i64 0] 62).boxrow 1 1 2 [.int .i64 6,.int .i64 0] rfl rfl (by unfold maxLen;omega);have aA:=qh aQ;clear b M aG aV aQ)
     | (at_builtin;refine Zak _ rfl _ _ _ rfl _ 62 j0 PZ 2 16 Tryz.underlying28 hj aU g D rfl (by omega) _ (es.length+P.length) _ rfl (aA.o.row 0 rfl) _ 1 [.int .i64 6,.int .i64 0] rfl ((Zab (aA.o.row 1 rfl)).sl (by omega) |>.mono (Nat.zero_le _)) (by intro u hu;simp at hu;rcases hu with rfl|rfl<;>rfl) (by unfold maxLen;omega) (by omega) aA.o.size ?_;intro a7 c7 w7 Z L aE;have bE:=qh ((aA.o.appS 0 rfl Z L aE).pick [0] (by decide));clear Z L aE))
    have N:=aT.o;have F:=aP.o;have C:=aC.o;have B:=E.o;have aF:St w w7 [Ent.row 62 2 (.slice a7 z.length c7) z.length (z.flatMap Zaa)]:=by rw[C,p.o];exact bE.o
    rw[← C];cases bB with
    | true =>
     have D:y=(z,q9,true):=by rw[← B];cases kk<;>rfl
     go_roundw
     case rel=>exact .inl ⟨a7,c7,z,rfl,rfl,by rw[D],by rw[D],aF⟩
     case measure =>show enM S (.int .i64 (-1))<enM S (.int .i64 (j:Int));rw[ZlD,ZcY];omega
    | false =>
     obtain⟨-,-,b3⟩:=N;obtain⟨b4,b5⟩:=b3 rfl;obtain⟨a1,a2,a3⟩:=F;obtain⟨a4,a5⟩:=a3 rfl;simp only[List.length_cons] at b4 b5 a1 a2 a4 a5;have aI:meas r.length (z,q9,false):=⟨by simp only;omega,by simp only;omega,fun _=>by simp only;omega⟩;have bR:=aH.o.length_le;go_roundw
     case rel=>exact .inr ⟨a7,c7,z,q9,kk,rfl,rfl,⟨B,by simp only[List.length_cons] at bC;omega⟩,aH.o,aI,aF⟩
     case measure =>show enM S (.int .i64 ((S.length-q9.length:Nat):Int))<enM S (.int .i64 (j:Int));rw[ZcY,ZcY];omega
   have H:y=(es,d::G,false):=by
    rw[← B];unfold ZaX;rw[if_neg (by simp)];have hc:Zfv jS 2 (d::G)=none:=by show(if 2=1∧d=124∨2=2∧d=38 then some G else if 2=3∧jS d=true then some (d::G) else none)=none;rw[if_neg (by omega),if_neg (by omega)]
    rw[hc]
   have n4:((d:Int)=38)=False:=by simp;omega
   have E:=qh H;clear B H F I;go_wp2;refine bodyPost_ret (v:=.tuple #[.slice a es.length c,.int .i64 (j:Int)]) (by simp[results,Tryz.results41,go_sem]) rfl ?_;rw[E.o];exact⟨a,c,by rw[show endI S (es,d::G,false)=(j:Int) by unfold endI;simp only[Bool.false_eq_true,if_false];rw[aX.o]],O.o⟩
theorem ZsT (n:Nat) (hC:ZlO n) (S:List Nat) (i:Nat) (w:World) (hn:fuP 3 (S.drop i)≤n+1) (hl:S.length≤120) (ht:isT S) (hi:i≤S.length) :
  Calls Tryz.prog 41 #[.string (txB S),.int .i64 (i:Int),.int .i64 2] w fun e w'=>RRs S (rdP jS (n+1) 3 (S.drop i)) w e w':=by
 have hs:=ZaE S;have aL:=qh ht;obtain⟨j0,hj,aX,k,F⟩:=info_parts Tryz.infoPart;obtain⟨r,hr⟩:=eJ (S.drop i);have m:r <:+ S:=by rw[← hr];exact List.drop_suffix _ _
 have cE:r.length≤120:=by have:=m.length_le;omega
 rw[hr] at hn ⊢;have aO:rdP jS (n+1) 3 r=ZaX (rdP jS n 4) jS 3 n (rdP jS n 4 r).1 (rdP jS n 4 r).2.1 (rdP jS n 4 r).2.2:=rfl;rw[aO];have hm:=ZdE jS n 4 r;have aQ:=(ZeC jS n 4 r).trans m;have aD:=hC 4 S i w (by omega) (by omega) (by rw[hr];unfold fuP at hn ⊢;omega) hl ht hi;rw[hr] at aD;obtain⟨x,hx⟩:=eJ (rdP jS n 4 r);rw[hx] at aD hm aQ ⊢;obtain⟨L,q0,R⟩:=x;obtain⟨y,hy⟩:=eJ (ZaX (rdP jS n 4) jS 3 n L q0 R);have U:ZaX (rdP jS n 4) jS 3 n (L,q0,R).1 (L,q0,R).2.1 (L,q0,R).2.2=y:=hy;rw[U];have bJ:=qh (show Calls Tryz.prog 41 #[.string (txB S),.int .i64 (i:Int),.int .i64 3] w fun e w'=>RRs S (L,q0,R) w e w' from aD);have bE:=qh hm;have aZ:=qh aQ;have Hn:=qh hn;replace aO:=qh aO;have bX:=qh hx;clear hx;have bK:=qh U;clear U;have aU:=qh hy;clear hy;replace hr:=qh hr;have bO:=qh m;clear m;clear aD hm aQ hn hi
 go_enter Tryz.func41, Tryz.ntmps41
 go_wp2_with (go_at_call 41;refine(bJ.o).mono ?_;rintro e w1 ⟨a1,c1,rfl,s⟩;replace s:=qh s)
 go_loopw [12,13] (fun ve vi wr=>(∃ (a:Option Addr) (c:Nat) (es:List (Int × Int)),ve = .slice a es.length c∧vi = .int .i64 (-1)∧y.1=es∧y.2.2=true∧St w wr [Ent.row 62 2 (.slice a es.length c) es.length (es.flatMap Zaa)]) ∨
   (∃ (a:Option Addr) (c:Nat) (es:List (Int × Int)) (r':List Nat) (kk:Nat),ve = .slice a es.length c∧vi = .int .i64 ((S.length-r'.length:Nat):Int)∧(ZaX (rdP jS n 4) jS 3 kk es r' false=y∧r'.length<kk)∧r' <:+ S∧meas r.length (es,r',false)∧St w wr [Ent.row 62 2 (.slice a es.length c) es.length (es.flatMap Zaa)])) (fun _ vi _=>enM S vi)
 case atStart =>
  cases R with
  | true =>
   have F:y=(L,q0,true):=by rw[← aU.o];cases n<;>rfl
   exact .inl ⟨a1,c1,L,rfl,rfl,by rw[F],by rw[F],s.o⟩
  | false =>obtain⟨m1,m2,m3⟩:=bE.o;obtain⟨m4,m5⟩:=m3 rfl;simp only at m1 m2 m4 m5;exact .inr ⟨a1,c1,L,q0,n,rfl,rfl,⟨aU.o,by have:=Hn.o;unfold fuP at this;omega⟩,aZ.o,⟨m1,m2,fun _=>⟨m4,m5⟩⟩,s.o⟩
 case round =>
  rcases hrel with⟨a,c,es,rfl,rfl,k,F,hS⟩|⟨a,c,es,r',k1,rfl,rfl,⟨B,bD⟩,J,H,hS⟩
  ·have G:=qh hS;clear hS;go_wp2;subst k;refine bodyPost_ret (v:=.tuple #[.slice a y.1.length c,.int .i64 (-1)]) (by simp[results,Tryz.results41,go_sem]) rfl ?_;exact⟨a,c,by rw[show endI S y = -1 by unfold endI;rw[if_pos F]],G.o⟩
  obtain⟨kk,rfl⟩:∃ kk,k1=kk+1:=⟨k1-1,by omega⟩;cases r' with
  | nil =>
   have I:y=(es,[],false):=B.symm;have C:=qh I;have G:=qh hS;have hle:(S.length:Int)≤((S.length-0:Nat):Int):=by omega
   clear B I H J;clear hS;simp only[List.length_nil,Nat.sub_zero];go_wp2;refine bodyPost_ret (v:=.tuple #[.slice a es.length c,.int .i64 (S.length:Int)]) (by simp[results,Tryz.results41,go_sem]) rfl ?_;rw[C.o];exact⟨a,c,rfl,G.o⟩
  | cons d D =>
   have G:=qh hS;obtain⟨aP,cB⟩:=ZkS J;obtain⟨aJ,V,bF,hjl⟩:=Zcw aP;obtain⟨j,p⟩:=eJ (S.length-(d::D).length);rw[p] at aJ V bF hjl;rw[p];have cG:(j:Int)<(S.length:Int):=by omega
   have cF:(0:Int)≤(j:Int):=by omega
   have cC:IntKind.i64.wrap ((j:Int)+1)=(j:Int)+1:=IntWalk.i64_in _ (by omega);have bH:d<256:=by rw[← V];exact aL.o _ (ZbN aJ)
   have bB:=fun u=>Zbx (l:=S) (i:=j) aJ aL.o u
   rw[V] at bB;have cA:es.length≤1000:=by have:=H.2.1;simp only at this;omega
   have bM:S.length=j+1+D.length:=hjl;have M:=qh p;clear p;have bS:=qh V;clear V;have bQ:=qh hjl;clear hjl;have aW:=qh aP;clear aP;clear hS;have aM:=qh (show S.drop j=d::D from by have:=aW.o;rw[M.o] at this;exact this);by_cases hds:d=124∨d=38∨d=41∨d=42
   ·have I:y=(es,d::D,false):=by
     rw[← B];unfold ZaX;rw[if_neg (by simp)];have hc:Zfv jS 3 (d::D)=none:=by show(if 3=1∧d=124∨3=2∧d=38 then some D else if 3=3∧jS d=true then some (d::D) else none)=none;rw[if_neg (by omega),if_neg];rintro⟨-,h⟩;rcases hds with rfl|rfl|rfl|rfl<;>simp[jS] at h
     rw[hc]
    have C:=qh I;clear B I H J;obtain rfl|hds:=hds
    ·go_wp2;refine bodyPost_ret (v:=.tuple #[.slice a es.length c,.int .i64 (j:Int)]) (by simp[results,Tryz.results41,go_sem]) rfl ?_;rw[C.o];exact⟨a,c,by rw[show endI S (es,124::D,false)=(j:Int) by unfold endI;simp only[Bool.false_eq_true,if_false];rw[M.o]],G.o⟩
    obtain rfl|hds:=hds
    ·go_wp2;refine bodyPost_ret (v:=.tuple #[.slice a es.length c,.int .i64 (j:Int)]) (by simp[results,Tryz.results41,go_sem]) rfl ?_;rw[C.o];exact⟨a,c,by rw[show endI S (es,38::D,false)=(j:Int) by unfold endI;simp only[Bool.false_eq_true,if_false];rw[M.o]],G.o⟩
    obtain rfl|rfl:=hds
    ·go_wp2;refine bodyPost_ret (v:=.tuple #[.slice a es.length c,.int .i64 (j:Int)]) (by simp[results,Tryz.results41,go_sem]) rfl ?_;rw[C.o];exact⟨a,c,by rw[show endI S (es,41::D,false)=(j:Int) by unfold endI;simp only[Bool.false_eq_true,if_false];rw[M.o]],G.o⟩
    go_wp2;refine bodyPost_ret (v:=.tuple #[.slice a es.length c,.int .i64 (j:Int)]) (by simp[results,Tryz.results41,go_sem]) rfl ?_;rw[C.o];exact⟨a,c,by rw[show endI S (es,42::D,false)=(j:Int) by unfold endI;simp only[Bool.false_eq_true,if_false];rw[M.o]],G.o⟩
   have aK:jS d=true:=by unfold jS;simp;omega
   have B:ZaX (rdP jS n 4) jS 3 kk (es++(rdP jS n 4 (d::D)).1++[(opK 3,0)]) (rdP jS n 4 (d::D)).2.1 (rdP jS n 4 (d::D)).2.2=y:=by
    rw[← B];have hc:Zfv jS 3 (d::D)=some (d::D):=by show(if 3=1∧d=124∨3=2∧d=38 then some D else if 3=3∧jS d=true then some (d::D) else none)=_;rw[if_neg (by omega),if_pos ⟨rfl,aK⟩]
    conv=>rhs;unfold ZaX
    rw[if_neg (by simp),hc]
   have bP:=qh aK;clear aK;have bT:((d:Int) != 124)=true:=by simp;omega
   have cD:((d:Int) != 38)=true:=by simp;omega
   have bY:((d:Int) != 41)=true:=by simp;omega
   have bZ:((d:Int) != 42)=true:=by simp;omega
   have X:S.drop (j)=(d::D):=aM.o;have P:=ZdE jS n 4 (d::D);have Z:=(ZeC jS n 4 (d::D)).trans (by rw[← X];exact List.drop_suffix _ _:(d::D) <:+ S);have bW:((d::D)).length≤r.length:=by have:=H.1;simp at this ⊢;omega
   have aN:=fun (u:World)=>(show Calls Tryz.prog 41 #[.string (txB S),.int .i64 (j:Int),.int .i64 3] u fun e w'=>RRs S (rdP jS n 4 (d::D)) u e w' from by have h:=hC 4 S (j) u (by omega) (by omega) (by rw[X];have:=Hn.o;unfold fuP at this ⊢;omega) hl aL.o (by omega);rw[X] at h;exact h)
   obtain⟨x9,z⟩:=eJ (rdP jS n 4 (d::D));rw[z] at P Z B;rw[z] at aN;obtain⟨Q,q9,bC⟩:=x9;have bN:Q.length≤1000:=by have:=P.2.1;simp only at this;omega
   have bA:=qh aN;obtain⟨e5,Y⟩:=eJ (es++Q++[(4,0)]);simp only at B;rw[show opK 3=4 from rfl,Y] at B;have E:e5.length=es.length+Q.length+1:=by rw[← Y];simp;omega
   have T:e5.flatMap Zaa=(es.flatMap Zaa++Q.flatMap Zaa)++[.int .i64 4,.int .i64 0]:=by rw[← Y];simp[Zaa]
   have aV:=qh P;have aH:=qh Z;have aR:=qh H;have bI:=qh J;have bL:=qh X;clear X;have aC:=qh E;clear E;have q:=qh T;clear T;have bV:=qh z;clear z;have bR:=qh Y;clear Y;have C:=qh B;clear B;clear aN P H Z J
   go_wp2_with (first
    | (go_at_call 41;refine(bA.o _).mono ?_;rintro e w2 ⟨a9,c9,rfl,aT⟩;have aB:=qh (show St w w2 [Ent.row 62 2 (.slice a es.length c) es.length (es.flatMap Zaa),Ent.row 62 2 (.slice a9 Q.length c9) Q.length (Q.flatMap Zaa)] from G.o.cat aT);clear aT)
    | (at_builtin;refine Zak _ rfl _ _ _ rfl _ 62 j0 PZ 2 16 Tryz.underlying28 hj aX k F rfl (by omega) _ es.length _ rfl (aB.o.row 0 rfl) _ Q.length (Q.flatMap Zaa) rfl ((Zab (aB.o.row 1 rfl)).sl (by omega) |>.mono (Nat.zero_le _)) ZcC (by unfold maxLen;omega) (by omega) aB.o.size ?_;intro a6 c6 w6 g O aG;have aY:=(aB.o.appS 0 rfl g O aG).pick [0] (by decide);have aS:St w _ [Ent.row 62 2 (.slice a6 (es.length+Q.length) c6) (es.length+Q.length) (es.flatMap Zaa++Q.flatMap Zaa),Ent.row 62 2 (.slice (some ⟨w6.heap.size,0,none⟩) 1 1) 1 [.int .i64 4,.int .i64 0]]:=(aY.alloc w6.heap.size rfl #[.int .i64 4,.int .i64 0] 62).boxrow 1 1 2 [.int .i64 4,.int .i64 0] rfl rfl (by unfold maxLen;omega);have aA:=qh aS;clear g O aG aY aS)
    | (at_builtin;refine Zak _ rfl _ _ _ rfl _ 62 j0 PZ 2 16 Tryz.underlying28 hj aX k F rfl (by omega) _ (es.length+Q.length) _ rfl (aA.o.row 0 rfl) _ 1 [.int .i64 4,.int .i64 0] rfl ((Zab (aA.o.row 1 rfl)).sl (by omega) |>.mono (Nat.zero_le _)) (by intro u hu;simp at hu;rcases hu with rfl|rfl<;>rfl) (by unfold maxLen;omega) (by omega) aA.o.size ?_;intro a7 c7 w7 b N aE;have bG:=qh ((aA.o.appS 0 rfl b N aE).pick [0] (by decide));clear b N aE))
   have P:=aV.o;have H:=aR.o;have E:=aC.o;have B:=C.o;have aF:St w w7 [Ent.row 62 2 (.slice a7 e5.length c7) e5.length (e5.flatMap Zaa)]:=by rw[E,q.o];exact bG.o
   rw[← E];cases bC with
   | true =>
    have F:y=(e5,q9,true):=by rw[← B];cases kk<;>rfl
    go_roundw
    case rel=>exact .inl ⟨a7,c7,e5,rfl,rfl,by rw[F],by rw[F],aF⟩
    case measure =>show enM S (.int .i64 (-1))<enM S (.int .i64 (j:Int));rw[ZlD,ZcY];omega
   | false =>
    obtain⟨-,-,b3⟩:=P;obtain⟨b4,b5⟩:=b3 rfl;obtain⟨a1,a2,a3⟩:=H;obtain⟨a4,a5⟩:=a3 rfl;simp only[List.length_cons] at b4 b5 a1 a2 a4 a5;have aI:meas r.length (e5,q9,false):=⟨by simp only;omega,by simp only;omega,fun _=>by simp only;omega⟩;have bU:=aH.o.length_le;go_roundw
    case rel=>exact .inr ⟨a7,c7,e5,q9,kk,rfl,rfl,⟨B,by simp only[List.length_cons] at bD;omega⟩,aH.o,aI,aF⟩
    case measure =>show enM S (.int .i64 ((S.length-q9.length:Nat):Int))<enM S (.int .i64 (j:Int));rw[ZcY,ZcY];omega
theorem ZsS (n:Nat) (hC:ZlO n) (S:List Nat) (i:Nat) (w:World) (hn:fuP 4 (S.drop i)≤n+1) (hl:S.length≤120) (ht:isT S) (hi:i≤S.length) :
  Calls Tryz.prog 41 #[.string (txB S),.int .i64 (i:Int),.int .i64 3] w fun e w'=>RRs S (rdP jS (n+1) 4 (S.drop i)) w e w':=by
 have hs:=ZaE S;have s:=qh ht;obtain⟨j0,hj,aH,aB,aG⟩:=info_parts Tryz.infoPart;obtain⟨r,hr⟩:=eJ (S.drop i);have J:r <:+ S:=by rw[← hr];exact List.drop_suffix _ _
 have aR:r.length≤120:=by have:=J.length_le;omega
 rw[hr] at hn ⊢;have HC:=qh hC
 have b:rdP jS (n+1) 4 r=rdP jS n 5 r→(r=[]∨∃ c r1,r=c::r1∧c≠33)→Calls Tryz.prog 41 #[.string (txB S),.int .i64 (i:Int),.int .i64 3] w fun e w'=>RRs S (rdP jS (n+1) 4 r) w e w':=by
  intro G N;rw[G];have C:=hC 5 S i w (by omega) (by omega) (by rw[hr];unfold fuP at hn ⊢;omega) hl ht hi;rw[hr] at C;have g:=(ZeC jS n 5 r).trans J;obtain⟨x,hx⟩:=eJ (rdP jS n 5 r);rw[hx] at C g ⊢;obtain⟨es,q,fl⟩:=x;have V:=qh (show Calls Tryz.prog 41 #[.string (txB S),.int .i64 (i:Int),.int .i64 4] w fun e w'=>RRs S (es,q,fl) w e w' from C);have aN:=qh g;have aS:=qh hi
  have I:i=S.length∨∃ c,i<S.length∧S.getD i 0=c∧c≠33:=by
   rcases N with h|⟨c,r1,h,aE⟩
   ·exact .inl (Zmp (hr.trans h) hi)
   obtain⟨q1,q2,-,-⟩:=Zcw (hr.trans h);exact .inr ⟨c,q1,q2,aE⟩
  have m:=qh G;clear G;have aA:=qh hx;clear hx;have aF:=qh hr;clear hr;replace J:=qh J;clear C g N hn hi hC;have Q:∀ (u:World) (a:Option Addr) (c:Nat),St w u [Ent.row 62 2 (.slice a es.length c) es.length (es.flatMap Zaa)]→RRs S (es,q,fl) w (.returned (.tuple #[.slice a es.length c,.int .i64 (endI S (es,q,fl))])) u:=fun u a c h=>⟨a,c,rfl,h⟩
  have M:=qh Q;clear Q
  have F:∀ P:Prop,(∀ c,i<S.length→S.getD i 0=c→c≠33→P)→(i=S.length→P)→P:=by
   intro P h1 h2;rcases I with h|⟨c,q1,q2,q3⟩
   ·exact h2 h
   exact h1 c q1 q2 q3
  clear I;refine F _ ?_ ?_
  ·intro c U hc R;have y:(i:Int)<(S.length:Int):=by omega
   have aJ:c<256:=by rw[← hc];exact ht _ (ZbN U)
   have d:=fun u=>Zbx (l:=S) (i:=i) U s.o u
   rw[hc] at d;have aQ:((c:Int)=33)=False:=by simp;omega
   have aD:=qh hc;clear hc;clear F
   go_enter Tryz.func41, Tryz.ntmps41
   go_wp2_with (go_at_call 41;refine(V.o).mono ?_;rintro e w1 ⟨a1,c1,rfl,B⟩;replace B:=qh B)
   go_loopw [12,13] (fun ve vi wr=>∃ (a:Option Addr) (c:Nat),ve = .slice a es.length c∧vi = .int .i64 (endI S (es,q,fl))∧St w wr [Ent.row 62 2 (.slice a es.length c) es.length (es.flatMap Zaa)]) (fun _ _ _=>0)
   case atStart=>exact⟨a1,c1,rfl,rfl,B.o⟩
   case round =>
    obtain⟨a2,c2,rfl,rfl,hS⟩:=hrel;have D:=qh (M.o _ _ _ hS);clear hS;cases fl with
    | true =>simp only[show endI S (es,q,true) = -1 from rfl];go_wp2;refine bodyPost_ret (v:=.tuple #[.slice a2 es.length c2,.int .i64 (-1)]) (by simp[results,Tryz.results41,go_sem]) rfl ?_;exact D.o
    | false =>
     obtain⟨j,hj⟩:=eJ (S.length-q.length);have he:endI S (es,q,false)=(j:Int):=by unfold endI;simp only[Bool.false_eq_true,if_false,hj]
     rw[he] at D;simp only[he];have aK:(0:Int)≤(j:Int):=by omega
     by_cases hlt:j<S.length
     ·have L:(j:Int)<(S.length:Int):=by omega
      have k:=qh hj;clear hj;have Z:=qh he;clear he;go_wp2;refine bodyPost_ret (v:=.tuple #[.slice a2 es.length c2,.int .i64 (j:Int)]) (by simp[results,Tryz.results41,go_sem]) rfl ?_;exact D.o
     have L:(S.length:Int)≤(j:Int):=by omega
     have k:=qh hj;clear hj;have Z:=qh he;clear he;clear hlt;go_wp2;refine bodyPost_ret (v:=.tuple #[.slice a2 es.length c2,.int .i64 (j:Int)]) (by simp[results,Tryz.results41,go_sem]) rfl ?_;exact D.o
  intro z;have y:(S.length:Int)≤(i:Int):=by omega
  have aL:=qh z;clear z;clear F
  go_enter Tryz.func41, Tryz.ntmps41
  go_wp2_with (go_at_call 41;refine(V.o).mono ?_;rintro e w1 ⟨a1,c1,rfl,B⟩;replace B:=qh B)
  go_loopw [12,13] (fun ve vi wr=>∃ (a:Option Addr) (c:Nat),ve = .slice a es.length c∧vi = .int .i64 (endI S (es,q,fl))∧St w wr [Ent.row 62 2 (.slice a es.length c) es.length (es.flatMap Zaa)]) (fun _ _ _=>0)
  case atStart=>exact⟨a1,c1,rfl,rfl,B.o⟩
  case round =>
   obtain⟨a2,c2,rfl,rfl,hS⟩:=hrel;have D:=qh (M.o _ _ _ hS);clear hS;cases fl with
   | true =>simp only[show endI S (es,q,true) = -1 from rfl];go_wp2;refine bodyPost_ret (v:=.tuple #[.slice a2 es.length c2,.int .i64 (-1)]) (by simp[results,Tryz.results41,go_sem]) rfl ?_;exact D.o
   | false =>
    obtain⟨j,hj⟩:=eJ (S.length-q.length);have he:endI S (es,q,false)=(j:Int):=by unfold endI;simp only[Bool.false_eq_true,if_false,hj]
    rw[he] at D;simp only[he];have aK:(0:Int)≤(j:Int):=by omega
    by_cases hlt:j<S.length
    ·have L:(j:Int)<(S.length:Int):=by omega
     have k:=qh hj;clear hj;have Z:=qh he;clear he;go_wp2;refine bodyPost_ret (v:=.tuple #[.slice a2 es.length c2,.int .i64 (j:Int)]) (by simp[results,Tryz.results41,go_sem]) rfl ?_;exact D.o
    have L:(S.length:Int)≤(j:Int):=by omega
    have k:=qh hj;clear hj;have Z:=qh he;clear he;clear hlt;go_wp2;refine bodyPost_ret (v:=.tuple #[.slice a2 es.length c2,.int .i64 (j:Int)]) (by simp[results,Tryz.results41,go_sem]) rfl ?_;exact D.o
 cases r with
 | nil=>exact b rfl (.inl rfl)
 | cons c r1 =>
  by_cases R:c=33
  ·subst R;have G:rdP jS (n+1) 4 (33::r1)=((rdP jS n 4 r1).1++[(7,0)],(rdP jS n 4 r1).2):=rfl;rw[G];clear b;obtain⟨U,hc,X,hlen⟩:=Zcw hr;have hm:=ZdE jS n 4 r1;have C:=hC 4 S (i+1) w (by omega) (by omega) (by rw[X];unfold fuP at hn ⊢;simp at hn;omega) hl ht (by omega);rw[X] at C;obtain⟨x,hx⟩:=eJ (rdP jS n 4 r1);rw[hx] at C hm ⊢;obtain⟨es,q,fl⟩:=x;have aO:es.length≤1000:=by have:=hm.2.1;simp only at this;omega
   have V:=qh (show Calls Tryz.prog 41 #[.string (txB S),.int .i64 ((i:Int)+1),.int .i64 3] w fun e w'=>RRs S (es,q,fl) w e w' from C);have y:(i:Int)<(S.length:Int):=by omega
   have aP:IntKind.i64.wrap ((i:Int)+1)=(i:Int)+1:=IntWalk.i64_in _ (by omega);have d:=fun u=>Zbx (l:=S) (i:=i) U s.o u
   rw[hc] at d;obtain⟨E,hE⟩:=eJ (endI S (es,q,fl));have m:=qh G;clear G;have aA:=qh hx;clear hx;have aF:=qh hr;clear hr;have aD:=qh hc;clear hc;have aM:=qh X;clear X;have aC:=qh hlen;clear hlen;replace J:=qh J;clear C hm hn hC
   go_enter Tryz.func41, Tryz.ntmps41
   go_wp2_with (first
    | (go_at_call 41;refine(V.o).mono ?_;rintro e w1 ⟨a1,c1,rfl,B⟩;simp only[hE];have T:=qh (show St w _ [Ent.row 62 2 (.slice a1 es.length c1) es.length (es.flatMap Zaa),Ent.row 62 2 (.slice (some ⟨w1.heap.size,0,none⟩) 1 1) 1 [.int .i64 7,.int .i64 0]] from(B.alloc w1.heap.size rfl #[.int .i64 7,.int .i64 0] 62).boxrow 1 1 2 [.int .i64 7,.int .i64 0] rfl rfl (by unfold maxLen;omega));clear B)
    | (at_builtin;refine Zak _ rfl _ _ _ rfl _ 62 j0 PZ 2 16 Tryz.underlying28 hj aH aB aG rfl (by omega) _ es.length _ rfl (T.o.row 0 rfl) _ 1 [.int .i64 7,.int .i64 0] rfl ((Zab (T.o.row 1 rfl)).sl (by omega) |>.mono (Nat.zero_le _)) (by intro u hu;simp at hu;rcases hu with rfl|rfl<;>rfl) (by unfold maxLen;omega) (by omega) T.o.size ?_;intro a7 c7 w7 O H Y;have aI:=qh ((T.o.appS 0 rfl O H Y).pick [0] (by decide));clear O H Y))
   refine bodyPost_ret (v:=.tuple #[.slice a7 (es.length+1) c7,.int .i64 E]) (by simp[results,Tryz.results41,go_sem]) rfl ?_;have p:(es++[((7:Int),(0:Int))]).length=es.length+1:=by simp
   refine⟨a7,c7,?_,?_⟩
   ·show _=Ending.returned (.tuple #[.slice a7 (es++[(7,0)]).length c7,.int .i64 (endI S (es++[(7,0)],q,fl))]);rw[p,← hE];rfl
   show St w w7 [Ent.row 62 2 (.slice a7 (es++[(7,0)]).length c7) (es++[(7,0)]).length ((es++[(7,0)]).flatMap Zaa)];rw[p,List.flatMap_append];exact aI.o
  exact b (if_neg R) (.inr ⟨c,r1,rfl,R⟩)
theorem ZsR (n:Nat) (hC:ZlO n) (S:List Nat) (i:Nat) (w:World) (hn:fuP 5 (S.drop i)≤n+1) (hl:S.length≤120) (ht:isT S) (hi:i≤S.length) :
  Calls Tryz.prog 41 #[.string (txB S),.int .i64 (i:Int),.int .i64 4] w fun e w'=>RRs S (rdP jS (n+1) 5 (S.drop i)) w e w':=by
 have hs:=ZaE S;have aE:=qh ht;obtain⟨j0,hj,aK,k,I⟩:=info_parts Tryz.infoPart;obtain⟨r,hr⟩:=eJ (S.drop i);have R:r <:+ S:=by rw[← hr];exact List.drop_suffix _ _
 have aZ:r.length≤120:=by have:=R.length_le;omega
 rw[hr] at hn ⊢;have s:rdP jS (n+1) 5 r=ZhY (rdP jS n 6 r):=rfl;rw[s];have hm:=ZdE jS n 6 r;have aA:=(ZeC jS n 6 r).trans R;have Z:=hC 6 S i w (by omega) (by omega) (by rw[hr];unfold fuP at hn ⊢;omega) hl ht hi;rw[hr] at Z;obtain⟨x,hx⟩:=eJ (rdP jS n 6 r);rw[hx] at Z hm aA ⊢;obtain⟨P,q0,aB⟩:=x;obtain⟨y,hy⟩:=eJ (ZhY (P,q0,aB));rw[hy];have aO:=qh (show Calls Tryz.prog 41 #[.string (txB S),.int .i64 (i:Int),.int .i64 5] w fun e w'=>RRs S (P,q0,aB) w e w' from Z);have aJ:=qh hm;have aH:=qh aA;replace s:=qh s;have aV:=qh hx;clear hx;have aD:=qh hy;clear hy;replace hr:=qh hr;have aR:=qh R;clear R;clear Z hm aA hn hi hC
 go_enter Tryz.func41, Tryz.ntmps41
 go_wp2_with (go_at_call 41;refine(aO.o).mono ?_;rintro e w1 ⟨a1,c1,rfl,V⟩;replace V:=qh V)
 go_loopw [12,13] (fun ve vi wr=>(∃ (a:Option Addr) (c:Nat) (es:List (Int × Int)),ve = .slice a es.length c∧vi = .int .i64 (-1)∧y.1=es∧y.2.2=true∧St w wr [Ent.row 62 2 (.slice a es.length c) es.length (es.flatMap Zaa)]) ∨
   (∃ (a:Option Addr) (c:Nat) (es:List (Int × Int)) (r':List Nat),ve = .slice a es.length c∧vi = .int .i64 ((S.length-r'.length:Nat):Int)∧(y=((Zbm es r').1,(Zbm es r').2,false))∧r' <:+ S∧meas r.length (es,r',false)∧St w wr [Ent.row 62 2 (.slice a es.length c) es.length (es.flatMap Zaa)])) (fun _ vi _=>enM S vi)
 case atStart =>
  cases aB with
  | true =>have I:y=(P,q0,true):=aD.o.symm;exact .inl ⟨a1,c1,P,rfl,rfl,by rw[I],by rw[I],V.o⟩
  | false =>obtain⟨m1,m2,m3⟩:=aJ.o;obtain⟨m4,m5⟩:=m3 rfl;simp only at m1 m2 m4 m5;exact .inr ⟨a1,c1,P,q0,rfl,rfl,aD.o.symm,aH.o,⟨m1,m2,fun _=>⟨m4,m5⟩⟩,V.o⟩
 case round =>
  rcases hrel with⟨a,c,es,rfl,rfl,k,I,hS⟩|⟨a,c,es,r',rfl,rfl,H,E,F,hS⟩
  ·have J:=qh hS;clear hS;go_wp2;subst k;refine bodyPost_ret (v:=.tuple #[.slice a y.1.length c,.int .i64 (-1)]) (by simp[results,Tryz.results41,go_sem]) rfl ?_;exact⟨a,c,by rw[show endI S y = -1 by unfold endI;rw[if_pos I]],J.o⟩
  cases r' with
  | nil =>
   have B:y=(es,[],false):=H;have D:=qh B;have J:=qh hS;have hle:(S.length:Int)≤((S.length-0:Nat):Int):=by omega
   clear H B F E;clear hS;simp only[List.length_nil,Nat.sub_zero];go_wp2;refine bodyPost_ret (v:=.tuple #[.slice a es.length c,.int .i64 (S.length:Int)]) (by simp[results,Tryz.results41,go_sem]) rfl ?_;rw[D.o];exact⟨a,c,rfl,J.o⟩
  | cons d L =>
   have J:=qh hS;obtain⟨z,aX⟩:=ZkS E;obtain⟨m,N,aL,hjl⟩:=Zcw z;obtain⟨j,T⟩:=eJ (S.length-(d::L).length);rw[T] at m N aL hjl;rw[T];have bB:(j:Int)<(S.length:Int):=by omega
   have bA:(0:Int)≤(j:Int):=by omega
   have aY:IntKind.i64.wrap ((j:Int)+1)=(j:Int)+1:=IntWalk.i64_in _ (by omega);have aN:d<256:=by rw[← N];exact aE.o _ (ZbN m)
   have aI:=fun u=>Zbx (l:=S) (i:=j) m aE.o u
   rw[N] at aI;have aW:es.length≤1000:=by have:=F.2.1;simp only at this;omega
   have aP:S.length=j+1+L.length:=hjl;have aG:=qh T;clear T;have aU:=qh N;clear N;have aS:=qh hjl;clear hjl;have aQ:=qh z;clear z;clear hS;by_cases hds:d=42
   ·subst hds;have B:y=((Zbm (es++[(8,0)]) L).1,(Zbm (es++[(8,0)]) L).2,false):=H;obtain⟨p,O⟩:=eJ (es++[((8:Int),(0:Int))]);rw[O] at B;have C:p.length=es.length+1:=by rw[← O];simp
    have M:p.flatMap Zaa=es.flatMap Zaa++[.int .i64 8,.int .i64 0]:=by rw[← O];simp[Zaa]
    have D:=qh B;have aC:=qh F;have q:=qh E;have X:=qh (show St w _ [Ent.row 62 2 (.slice a es.length c) es.length (es.flatMap Zaa),Ent.row 62 2 (.slice (some ⟨wr.heap.size,0,none⟩) 1 1) 1 [.int .i64 8,.int .i64 0]] from(J.o.alloc wr.heap.size rfl #[.int .i64 8,.int .i64 0] 62).boxrow 1 1 2 [.int .i64 8,.int .i64 0] rfl rfl (by unfold maxLen;omega));have aT:=qh O;clear O;have Y:=qh C;clear C;have U:=qh M;clear M;clear H B F E
    go_wp2_with (first
     | (at_builtin;refine Zak _ rfl _ _ _ rfl _ 62 j0 PZ 2 16 Tryz.underlying28 hj aK k I rfl (by omega) _ es.length _ rfl (X.o.row 0 rfl) _ 1 [.int .i64 8,.int .i64 0] rfl ((Zab (X.o.row 1 rfl)).sl (by omega) |>.mono (Nat.zero_le _)) (by intro u hu;simp at hu;rcases hu with rfl|rfl<;>rfl) (by unfold maxLen;omega) (by omega) X.o.size ?_;intro a7 c7 w7 Q G b;have aM:=qh ((X.o.appS 0 rfl Q G b).pick [0] (by decide));clear Q G b))
    have C:=Y.o;have aF:St w w7 [Ent.row 62 2 (.slice a7 p.length c7) p.length (p.flatMap Zaa)]:=by rw[C,U.o];exact aM.o
    rw[← C];have F:=aC.o;obtain⟨a1,a2,a3⟩:=F;obtain⟨a4,a5⟩:=a3 rfl;simp only[List.length_cons] at a1 a2 a4 a5;have g:meas r.length (p,L,false):=⟨by simp only;omega,by simp only;omega,fun _=>by simp only;omega⟩;have hjn:((S.length-L.length:Nat):Int)=(j:Int)+1:=by omega
    go_roundw
    case rel=>exact .inr ⟨a7,c7,p,L,rfl,by rw[hjn],D.o,(List.suffix_cons 42 L).trans q.o,g,aF⟩
    case measure =>show enM S (.int .i64 ((j:Int)+1))<enM S (.int .i64 (j:Int));rw[← hjn,ZcY,ZcY];omega
   have B:y=(es,d::L,false):=by rw[H];have:Zbm es (d::L)=(es,d::L):=if_neg hds;rw[this]
   have n4:((d:Int)=42)=False:=by simp;omega
   have D:=qh B;clear H B F E;go_wp2;refine bodyPost_ret (v:=.tuple #[.slice a es.length c,.int .i64 (j:Int)]) (by simp[results,Tryz.results41,go_sem]) rfl ?_;rw[D.o];exact⟨a,c,by rw[show endI S (es,d::L,false)=(j:Int) by unfold endI;simp only[Bool.false_eq_true,if_false];rw[aG.o]],J.o⟩
theorem Zka:∀ n,ZlO n
 | 0=>fun l S i w _ h6 hn=>by unfold fuP at hn;omega
 | n+1=>fun l S i w h1 h6 hn hl ht hi=>by
  have B:=Zka n;obtain rfl|rfl|rfl|rfl|rfl|rfl:l=1∨l=2∨l=3∨l=4∨l=5∨l=6:=by omega
  ·exact ZsV n B S i w hn hl ht hi
  ·exact ZsU n B S i w hn hl ht hi
  ·exact ZsT n B S i w hn hl ht hi
  ·exact ZsS n B S i w hn hl ht hi
  ·exact ZsR n B S i w hn hl ht hi
  exact ZsQ n B S i w hn hl ht hi
def RReS (s:List Nat) (w:World) (e:Ending) (w':World):Prop:=(Zbv s=none∧∃ a c,e = .returned (.tuple #[.slice a 0 c,.bool false])∧St w w' [Ent.row 62 2 (.slice a 0 c) 0 []]) ∨
 (∃ es a c,Zbv s=some es∧e = .returned (.tuple #[.slice a es.length c,.bool true])∧St w w' [Ent.row 62 2 (.slice a es.length c) es.length (es.flatMap Zaa)])
theorem Zgs (s:List Nat) (w:World) (ht:isT s):Calls Tryz.prog 17 #[.string (txB s)] w fun e w'=>RReS s w e w':=by
 have hs:=ZaE s;by_cases hl:120<s.length
 ·have U:(120:Int)<s.length:=by omega
  have C:=Ziw hl;have Y:=qh (Zgc (St.start w));have D:=qh C;clear C
  go_enter Tryz.func17, Tryz.ntmps17
  go_wp2;refine bodyPost_ret (v:=.tuple #[.slice (some ⟨w.heap.size,0,none⟩) 0 0,.bool false]) (by simp[results,Tryz.results17,go_sem]) rfl ?_;exact .inl ⟨D.o,_,_,rfl,Y.o⟩
 have U:(s.length:Int)≤120:=by omega
 have hr:=Zl5 Zsy (Nat.le_refl (fuP 1 s)) (show s.length≤120 by omega);have P:=Zka (fuP 1 s) 1 s 0 w (by omega) (by omega) (by rw[List.drop_zero];exact Nat.le_refl _) (by omega) ht (by omega);rw[List.drop_zero] at P;have hm:=ZdE jS (fuP 1 s) 1 s;have E:s=[]→(rdP jS (fuP 1 s) 1 s).2.2=true:=fun h=>by subst h;exact Zob jS _ 1 (by omega) (by omega)
 obtain⟨x,hx⟩:=eJ (rdP jS (fuP 1 s) 1 s);rw[hx] at P hr hm E;obtain⟨es,q,fl⟩:=x;have O:=qh (show Calls Tryz.prog 41 #[.string (txB s),.int .i64 0,.int .i64 0] w fun e w'=>RRs s (es,q,fl) w e w' from P);have N:es.length≤1000:=by have:=hm.2.1;simp only at this;omega
 have M:q.length≤s.length:=hm.1;have R:=qh ht;have Hr:=qh hr;replace hx:=qh hx;clear P hr hm hl;cases fl with
 | true =>
  have C:Zbv s=none:=by rw[Hr.o];exact if_neg (fun h=>by cases h.1)
  have he:endI s (es,q,true) = -1:=rfl;have D:=qh C;clear C;clear E
  go_enter Tryz.func17, Tryz.ntmps17
  go_wp2_with (go_at_call 41;refine(O.o).mono ?_;rintro e w1 ⟨a1,c1,rfl,B⟩;have L:=qh ((Zgc B).pick [1] (by decide));simp only[he];clear B);refine bodyPost_ret (v:=.tuple #[.slice (some ⟨w1.heap.size,0,none⟩) 0 0,.bool false]) (by simp[results,Tryz.results17,go_sem]) rfl ?_;exact .inl ⟨D.o,_,_,rfl,L.o⟩
 | false =>
  have G:s≠[]:=fun h=>by cases E h
  cases q with
  | cons d q =>
   have C:Zbv s=none:=by rw[Hr.o];exact if_neg (fun h=>by cases h.2.1)
   obtain⟨j,hj⟩:=eJ (s.length-(d::q).length);have he:endI s (es,d::q,false)=(j:Int):=by unfold endI;simp only[Bool.false_eq_true,if_false,hj]
   have hjn:((j:Int) != (s.length:Int))=true:=by simp at M hj ⊢;omega
   have D:=qh C;clear C;replace hj:=qh hj;clear E G M
   go_enter Tryz.func17, Tryz.ntmps17
   go_wp2_with (go_at_call 41;refine(O.o).mono ?_;rintro e w1 ⟨a1,c1,rfl,B⟩;have L:=qh ((Zgc B).pick [1] (by decide));simp only[he];clear B);refine bodyPost_ret (v:=.tuple #[.slice (some ⟨w1.heap.size,0,none⟩) 0 0,.bool false]) (by simp[results,Tryz.results17,go_sem]) rfl ?_;exact .inl ⟨D.o,_,_,rfl,L.o⟩
  | nil =>
   have he:endI s (es,[],false)=(s.length:Int):=rfl;have V:=Zeq s;rw[show s.isEmpty=false by cases s with|nil=>exact absurd rfl G|cons=>rfl] at V;by_cases hq:ZeJ es=s
   ·have H:Zbv s=some es:=by rw[Hr.o];exact if_pos ⟨rfl,rfl,hq⟩
    have Q:=qh (fun (v:Value) (u:World) (S:Pairs 0 u v es)=>by have:=ZaR es v u N S;rw[hq] at this;exact this);have J:=qh H;clear H;clear hq E G
    go_enter Tryz.func17, Tryz.ntmps17
    go_wp2_with (first
     | (go_at_call 41;refine(O.o).mono ?_;rintro e w1 ⟨a1,c1,rfl,B⟩;have F:=qh B;simp only[he];clear B)
     | (go_at_call 18;refine(Q.o _ _ (Zaj (F.o.row 0 rfl))).mono ?_;rintro e w2 ⟨rfl,hb2⟩;have I:=qh (F.o.call hb2);clear hb2))
    refine bodyPost_ret (v:=.tuple #[.slice a1 es.length c1,.bool true]) (by simp[results,Tryz.results17,go_sem]) rfl ?_;exact .inr ⟨es,a1,c1,J.o,rfl,I.o⟩
   have C:Zbv s=none:=by rw[Hr.o];exact if_neg (fun h=>hq h.2.2)
   have X:=ZnB (ZcO es) R.o hq;have Q:=qh (fun (v:Value) (u:World) (S:Pairs 0 u v es)=>ZaR es v u N S);have D:=qh C;clear C;clear hq E G
   go_enter Tryz.func17, Tryz.ntmps17
   go_wp2_with (first
    | (go_at_call 41;refine(O.o).mono ?_;rintro e w1 ⟨a1,c1,rfl,B⟩;have F:=qh B;simp only[he];clear B)
    | (go_at_call 18;refine(Q.o _ _ (Zaj (F.o.row 0 rfl))).mono ?_;rintro e w2 ⟨rfl,hb2⟩;have I:=qh (F.o.call hb2);have T:=qh ((Zgc I.o).pick [1] (by decide));clear hb2))
   refine bodyPost_ret (v:=.tuple #[.slice (some ⟨w2.heap.size,0,none⟩) 0 0,.bool false]) (by simp[results,Tryz.results17,go_sem]) rfl ?_;exact .inl ⟨D.o,_,_,rfl,T.o⟩
def ZjW (K:Nat) (q:Option (List (Int × Int))) (o:Option DfaD):Prop:=(q=none∧o=none)∨∃ es,q=some es∧es.length≤2000000∧ZlP K es o
theorem Zl4 {s:List Nat} {es:List (Int × Int)} (h:Zbv s=some es):exOk es=true:=by obtain⟨t,rfl,-,h60,-⟩:=Ziv h;exact ZaD t h60
theorem Zn9 {s:List Nat} {es:List (Int × Int)} (h:Zbv s=some es):es.length≤60:=(Zbh (Zl4 h)).2.2.2
theorem Zmv (K:Nat) (s:List Nat):∃ o,ZjW K (Zbv s) o:=by
 cases h:Zbv s with
 | none=>exact⟨none,.inl ⟨rfl,rfl⟩⟩
 | some es =>obtain⟨o,B⟩:=Zrd K es;exact⟨o,.inr ⟨es,rfl,by have:=Zn9 h;omega,B⟩⟩
theorem ZcX (K:Nat) (Z:K=40) (s:List Nat) (o:Option DfaD) (M:ZjW K (Zbv s) o) (w:World) (ht:isT s) :
  Calls Tryz.prog 33 #[.string (txB s)] w fun e w'=>RTt (o.getD zeD) o.isSome w.heap.size e w'∧Below w.heap.size w w':=by
 have N:=qh ((St.start w).alloc _ rfl #[.slice none 0 0,.slice none 0 0] 44);have HR:=qh (fun u=>ZdT s u ht);obtain⟨q,hq⟩:=eJ (Zbv s);have Y:=qh hq;have hok:=fun es h=>Zl4 (s:=s) (es:=es) (hq.trans h)
 rw[hq] at M;clear hq;rcases M with⟨rfl,rfl⟩|⟨es,rfl,-,M⟩
 ·clear hok
  go_enter Tryz.func33, Tryz.ntmps33
  go_wp2_with fail;refine(HR.o _).mono ?_;rintro e w1 (⟨-,rfl,hb1⟩|⟨es,a,c,F,-,-⟩)
  ·have C:=qh (N.o.call hb1);clear hb1;have j:=C.o.fr 0 0 rfl;have f1:=C.o.fr 0 1 rfl;have g:=C.o.cell (v:=.slice none 0 0) 0 0 rfl rfl;have i:=C.o.cell (v:=.slice none 0 0) 0 1 rfl rfl;go_wp2;have hq:=(C.o.set 0 rfl 0 (.slice none 0 0)).set 0 rfl 1 (.slice none 0 0);have T:=hq.cell (v:=.slice none 0 0) 0 0 rfl rfl;have V:=hq.cell (v:=.slice none 0 0) 0 1 rfl rfl;refine bodyPost_ret (v:=.tuple #[.agg #[.slice none 0 0,.slice none 0 0],.bool false]) (by simp[results,Tryz.results33,go_sem,T,V]) rfl ⟨?_,hq.bel⟩;exact⟨none,0,none,0,rfl,ZiT _ _ _ _ _⟩
  exact absurd (Y.o.symm.trans F) (by simp)
 replace hok:=hok es rfl
 have hoc:∃ t:Ex,t.post=es∧Zat K t=o:=by
  rcases M with⟨-,t,h1,h2⟩|⟨h1,-⟩
  ·exact⟨t,h1,h2⟩
  rw[hok] at h1;cases h1
 obtain⟨t,O,L⟩:=hoc;have G:runC K es []=o.map fun d=>[d]:=by rw[← O,← L];exact ZmN Z t
 have I:∀ d,o=some d→minD d=d:=fun d h=>ZjK Z t (L.trans h)
 have b:=qh (show ∀ (v:Value) (u:World),Pairs 0 u v es→Calls Tryz.prog 24 #[v] u fun e w'=>RTt (o.getD zeD) o.isSome u.heap.size e w'∧Below u.heap.size u w' from fun v u h=>Zgv K Z es o G I v u hok h);obtain⟨D,R⟩:=eJ (o.getD zeD);obtain⟨fb,J⟩:=eJ (o.isSome);rw[R,J] at b;rw[R,J];clear G I M O L R J hok
 go_enter Tryz.func33, Tryz.ntmps33
 go_wp2_with fail;refine(HR.o _).mono ?_;rintro e w1 (⟨U,-,-⟩|⟨X,a,c,F,rfl,hS⟩)
 ·exact absurd (Y.o.symm.trans U) (by simp)
 obtain rfl:es=X:=by have:=Y.o.symm.trans F;simpa using this
 have HP:=qh (Zaj (hS.row 0 rfl));have Q:=qh (N.o.call hS.bel);clear hS F;go_wp2_with fail;refine(b.o _ _ HP.o).mono ?_;rintro e w2 ⟨⟨a1,c1,a2,c2,rfl,H⟩,hb2⟩;have B:=Q.o.call hb2;have j:=B.fr 0 0 rfl;have f1:=B.fr 0 1 rfl;have g:=B.cell (v:=.slice none 0 0) 0 0 rfl rfl;have i:=B.cell (v:=.slice none 0 0) 0 1 rfl rfl;have P:=DMem.of H Q.o.size;have E:=B.box 0 rfl;have C:=qh B;have S:=qh P;replace E:=qh E;clear B H hb2 P;go_wp2;have hq:=(C.o.set 0 rfl 0 (.slice a1 D.next.length c1)).set 0 rfl 1 (.slice a2 D.ends.length c2);have T:=hq.cell (v:=.slice a1 D.next.length c1) 0 0 rfl rfl;have V:=hq.cell (v:=.slice a2 D.ends.length c2) 0 1 rfl rfl;have hm:=(S.o.set E.o 0 (.slice a1 D.next.length c1)).set (E.o.set 0 _) 1 (.slice a2 D.ends.length c2);refine bodyPost_ret (v:=.tuple #[.agg #[.slice a1 D.next.length c1,.slice a2 D.ends.length c2],.bool fb]) (by simp[results,Tryz.results33,go_sem,T,V]) rfl ⟨?_,hq.bel⟩;exact⟨a1,c1,a2,c2,rfl,_,_,rfl,hm.1,hm.2⟩
theorem ZcQ (K:Nat) (X:K=40) (s:List Nat) (o:Option DfaD) (H:ZjW K (Zbv s) o) (w:World) (ht:isT s) :
  Calls Tryz.prog 38 #[.string (txB s)] w fun e w'=>RO o w e w':=by
 have I:=qh ((St.start w).alloc _ rfl #[.slice none 0 0,.slice none 0 0] 44);have HR:=qh (fun u=>Zgs s u ht);obtain⟨q,hq⟩:=eJ (Zbv s);have R:=qh hq;rw[hq] at H;clear hq;rcases H with⟨rfl,rfl⟩|⟨es,rfl,hlen,H⟩
 ·go_enter Tryz.func38, Tryz.ntmps38
  go_wp2_with fail;refine(HR.o _).mono ?_;rintro e w1 (⟨-,a,c,rfl,hS⟩|⟨es,a,c,E,-,-⟩)
  ·have B:=qh (I.o.call hS.bel);clear hS;have Y:=B.o.fr 0 0 rfl;have f1:=B.o.fr 0 1 rfl;have T:=B.o.cell (v:=.slice none 0 0) 0 0 rfl rfl;have V:=B.o.cell (v:=.slice none 0 0) 0 1 rfl rfl;go_wp2;have hq:=(B.o.set 0 rfl 0 (.slice none 0 0)).set 0 rfl 1 (.slice none 0 0);have M:=hq.cell (v:=.slice none 0 0) 0 0 rfl rfl;have P:=hq.cell (v:=.slice none 0 0) 0 1 rfl rfl;refine bodyPost_ret (v:=.tuple #[.agg #[.slice none 0 0,.slice none 0 0],.bool false]) (by simp[results,Tryz.results38,go_sem,M,P]) rfl ?_;exact⟨none,0,none,0,rfl,Zdb _ _,hq.bel⟩
  exact absurd (R.o.symm.trans E) (by simp)
 have hc:=fun (v:Value) (u:World) (h:Pairs 0 u v es)=>Zg2 K X es o H v u hlen h
 unfold RO at hc ⊢;obtain⟨D,S⟩:=eJ (o.getD Za2);obtain⟨fb,G⟩:=eJ (o.isSome);rw[S,G] at hc ⊢;have U:=qh hc;clear H hlen hc S G
 go_enter Tryz.func38, Tryz.ntmps38
 go_wp2_with fail;refine(HR.o _).mono ?_;rintro e w1 (⟨N,-⟩|⟨Q,a,c,E,rfl,hS⟩)
 ·exact absurd (R.o.symm.trans N) (by simp)
 obtain rfl:es=Q:=by have:=R.o.symm.trans E;simpa using this
 have HP:=qh (Zaj (hS.row 0 rfl));have F:=qh (I.o.call hS.bel);clear hS E;go_wp2_with fail;refine(U.o _ _ HP.o).mono ?_;rintro e w2 ⟨a1,c1,a2,c2,rfl,hr,hb2⟩;have C:=F.o.call hb2;have Y:=C.fr 0 0 rfl;have f1:=C.fr 0 1 rfl;have T:=C.cell (v:=.slice none 0 0) 0 0 rfl rfl;have V:=C.cell (v:=.slice none 0 0) 0 1 rfl rfl;have J:=(F.o.boxlt 0 rfl).2;have O:=F.o.size;have B:=qh C;have L:=qh hr;clear C hr hb2;go_wp2;have hq:=(B.o.set 0 rfl 0 (.slice a1 D.next.length c1)).set 0 rfl 1 (.slice a2 D.ends.length c2);have M:=hq.cell (v:=.slice a1 D.next.length c1) 0 0 rfl rfl;have P:=hq.cell (v:=.slice a2 D.ends.length c2) 0 1 rfl rfl;refine bodyPost_ret (v:=.tuple #[.agg #[.slice a1 D.next.length c1,.slice a2 D.ends.length c2],.bool fb]) (by simp[results,Tryz.results38,go_sem,M,P]) rfl ?_;exact⟨_,_,_,_,rfl,((L.o.far J 0 _).far J 1 _).mono O,hq.bel⟩
end Go.Proofs.YtncekbbhgipdlaaGreat
