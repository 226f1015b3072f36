/-
  The walks over the draws of one automaton.
  Condition: the argument reads as bytes.
-/
import Derived.Test.YtfanhfcamblghaaRows
import Derived.Test.YtfanhfcamblghaaPq17Pni
import Derived.Test.YtfanhfcamblghaaPq22Pns
import Derived.Test.YtfanhfcamblghaaPq23Jy
import Derived.Test.YtfanhfcamblghaaPq25L16
import Derived.Test.YtfanhfcamblghaaPq26Prl
import Derived.Test.YtfanhfcamblghaaPq27Jh
set_option maxHeartbeats 8000000
set_option maxRecDepth 100000
namespace Go.Proofs.Ytfanhfcamblghaa
open Go.RowKit
theorem Zkm (bs:List Nat) (v:Value) (w:World) (hb:Bytes 0 w v bs) (hlen:bs.length≤100000000) :
  Calls Try.prog 29 #[v] w fun e w'=>∃ vb bs',bs'.length≤2000∧(∀ u:World,Bytes 0 u v bs→Bytes 0 u vb bs')∧e = .returned (.pointer (some ⟨w.heap.size,0,none⟩))∧St w w' [RdE w.heap.size vb 0]:=by
 obtain⟨a,c,rfl,hc1,hc2,-⟩:=hb.form;have Hb:=qh hb;clear hb;by_cases h2:2000<bs.length
 ·have q1:(2000:Int)<bs.length:=by omega
  have q2:(2000:Int)≤c:=by omega
  have hS:=(St.start w).alloc _ rfl #[.slice a 2000 c,.int .i64 0] 117;have HS:=qh hS;clear hS
  go_enter Try.func29, Try.ntmps29
  go_wp2;go_ret;exact⟨_,bs.take 2000,by rw[List.length_take];omega,fun u h=>h.take (by omega),rfl,HS.out⟩
 have q1:(2000<(bs.length:Int))=False:=by simp;omega
 have hS:=(St.start w).alloc _ rfl #[.slice a bs.length c,.int .i64 0] 117;have HS:=qh hS;have h2:bs.length≤2000:=by omega
 clear hS
 go_enter Try.func29, Try.ntmps29
 go_wp2;go_ret;exact⟨_,bs,h2,fun u h=>h,rfl,HS.out⟩
theorem Zhg (bs:List Nat) (vb:Value) (b p n:Nat) (w0 w:World) (X:Ent) (hb:Bytes 0 w0 vb bs) (hlen:bs.length≤2000) (hp:p≤700000) (hn1:n≤10000) (hS:St w0 w [RdE b vb p,X]) :
  Calls Try.prog 28 #[.pointer (some ⟨b,0,none⟩),.int .i64 ((n:Nat):Int)] w fun e w'=>∃ (v:Value) (es:List (Int × Int)) (E:Ent) (p':Nat),es.length≤100∧PtH E v es∧e = .returned v∧St w0 w' [RdE b vb p',X,E]:=by
 have Hb:=qh hb;have HS0:=qh hS;clear hb hS
 go_enter Try.func28, Try.ntmps28
 go_wp2_with fail;refine(ZgD bs vb b p n w0 _ X Hb.out hlen (by omega) hn1 HS0.out).mono ?_;rintro e w1 ⟨q,p1,hp1,rfl,hS1⟩;have HS1:=qh hS1;clear hS1 HS0;cases q
 ·go_wp2_with fail;refine(ZaC bs vb b p1 3 w0 _ X Hb.out hlen (by omega) (by omega) (by omega) HS1.out).mono ?_;rintro e w2 ⟨k3,hk3,rfl,hS2⟩;obtain⟨d,hd⟩:∃ d:Nat,(1:Int)+(k3:Int)=((d:Nat):Int):=⟨k3+1,by omega⟩;have hd3:d≤3:=by omega
  have hdw:IntKind.i64.wrap (d:Int)=(d:Int):=IntWalk.i64_in _ (by omega);have hsm:=ZgY hd3;have HS2:=qh hS2;clear hS2 HS1;go_wp2_with fail;refine(ZiA bs vb b w0 Hb.out hlen d hd3 true (p1+1) _ X (by omega) HS2.out).mono ?_;rintro e w3 ⟨a,c,es,p2,he1,hel,hp2,rfl,hS3⟩;have HS3:=qh hS3;clear hS3 HS2;go_wp2;go_ret;exact⟨_,es,_,p2,by omega,Zfd a c es,rfl,HS3.out⟩
 go_wp2_with fail;refine(Zmg bs vb b p1 3 w0 _ X Hb.out hlen (by omega) (by omega) HS1.out).mono ?_;rintro e w2 ⟨v,es,E,p2,hel,hp2,hE,rfl,hS2⟩;have HS2:=qh hS2;have HE:=qh hE;clear hS2 HS1 hE;go_wp2;go_ret;exact⟨v,es,E,p2,hel,HE.out,rfl,HS2.out⟩
end Go.Proofs.Ytfanhfcamblghaa
namespace Go.Proofs.Ytfanhfcamblghaa
def seg (w:List Nat) (i j:Nat):List Nat:=(w.drop i).take (j-i)
theorem Zdk {w:List Nat} {i j:Nat} (hij:i≤j) (hj:j≤w.length):(seg w i j).length=j-i:=by unfold seg;rw[List.length_take,List.length_drop];omega
theorem Zip (w:List Nat) (i:Nat):seg w i i=[]:=by unfold seg;simp
theorem ZmS (w:List Nat):seg w 0 w.length=w:=by unfold seg;simp
theorem Zdw {w:List Nat} {i k j:Nat} (h1:i≤k) (h2:k≤j):seg w i j=seg w i k++seg w k j:=by
 unfold seg;have e:j-i=(k-i)+(j-k):=by omega
 rw[e,List.take_add,List.drop_drop];congr 3;omega
theorem Ze5 {w u v:List Nat} {i j:Nat} (hij:i≤j) (hj:j≤w.length) (h:seg w i j=u++v):i+u.length≤j∧u=seg w i (i+u.length)∧v=seg w (i+u.length) j:=by
 have hl:=Zdk hij hj;rw[h,List.length_append] at hl;have hk:i+u.length≤j:=by omega
 have hs:=Zdw (w:=w) (i:=i) (k:=i+u.length) (j:=j) (by omega) hk;rw[h] at hs;have hul:u.length=(seg w i (i+u.length)).length:=by rw[Zdk (by omega) (by omega)];omega
 obtain⟨e1,e2⟩:=List.append_inj hs hul;exact⟨hk,e1,e2⟩
theorem Zj0 {w:List Nat} {i c:Nat} (hi:i<w.length):seg w i (i+1)=[c]↔w.getD i 0=c:=by
 have e:seg w i (i+1)=[w.getD i 0]:=by unfold seg;rw[Nat.add_sub_cancel_left,List.drop_eq_getElem_cons hi,List.take_succ_cons,List.take_zero];simp[hi]
 rw[e];simp
def memS (t:Ex) (w:List Nat) (i j:Nat):Prop:=memE t (seg w i j)
theorem Zkz (w:List Nat) (i j:Nat):¬ memS .zero w i j:=fun h=>h
theorem ZlP {w:List Nat} {i j:Nat} (hij:i≤j) (hj:j≤w.length):memS .one w i j↔i=j:=by
 show seg w i j=[]↔_;have hl:=Zdk hij hj;constructor
 ·intro h;rw[h] at hl;simp at hl;omega
 rintro rfl;exact Zip w i
theorem ZlQ {w:List Nat} {i j:Nat} {c:Fin 3} (hij:i≤j) (hj:j≤w.length):memS (.ltr c) w i j↔j=i+1∧w.getD i 0=c.val:=by
 show seg w i j=[c.val]↔_;have hl:=Zdk hij hj;constructor
 ·intro h;have e:j=i+1:=by rw[h] at hl;simp at hl;omega
  subst e;exact⟨rfl,(Zj0 (by omega)).1 h⟩
 rintro⟨rfl,h⟩;exact(Zj0 (by omega)).2 h
theorem ZkB {a b:Ex} {w:List Nat} {i j:Nat} (hij:i≤j) (hj:j≤w.length):memS (.join a b) w i j↔∃ k,i≤k∧k≤j∧memS a w i k∧memS b w k j:=by
 constructor
 ·rintro⟨u,v,h,h1,h2⟩;obtain⟨hk,e1,e2⟩:=Ze5 hij hj h;exact⟨i+u.length,by omega,hk,by unfold memS;rw[← e1];exact h1,by unfold memS;rw[← e2];exact h2⟩
 rintro⟨k,h1,h2,h3,h4⟩;exact⟨_,_,Zdw h1 h2,h3,h4⟩
theorem StarL.first {L:List Nat→Prop} {w:List Nat} (h:StarL L w):w=[]∨∃ u v,u≠[]∧w=u++v∧L u∧StarL L v:=by
 obtain⟨ws,rfl,hs⟩:=h
 induction ws with
 | nil=>exact .inl rfl
 | cons u ws ih =>
  by_cases hu:u=[]
  ·subst hu;exact ih fun x hx=>hs x (by simp[hx])
  exact .inr ⟨u,ws.flatten,hu,rfl,hs u (by simp),ws,rfl,fun x hx=>hs x (by simp[hx])⟩
theorem StarL.snoc {L:List Nat→Prop} {u w:List Nat} (h:StarL L w) (h':L u):StarL L (w++u):=by
 obtain⟨ws,rfl,hw⟩:=h;refine⟨ws++[u],by simp,fun x hx => ?_⟩;rcases List.mem_append.1 hx with hx|hx
 ·exact hw x hx
 simp at hx;subst hx;exact h'
theorem StarL.last {L:List Nat→Prop} {w:List Nat} (h:StarL L w):w=[]∨∃ u v,v≠[]∧w=u++v∧StarL L u∧L v:=by
 obtain⟨ws,rfl,hs⟩:=h;obtain⟨rs,rfl⟩:∃ rs:List (List Nat),ws=rs.reverse:=⟨ws.reverse,by simp⟩
 induction rs with
 | nil=>exact .inl rfl
 | cons u rs ih =>
  have hu:L u:=hs u (by simp);have hr:∀ x∈rs.reverse,L x:=fun x hx=>hs x (by simp at hx ⊢;exact .inl hx)
  rw[List.reverse_cons,List.flatten_append];by_cases hn:u=[]
  ·subst hn;simpa using ih hr
  exact .inr ⟨rs.reverse.flatten,u,hn,by simp,⟨rs.reverse,rfl,hr⟩,hu⟩
theorem ZkA {a:Ex} {w:List Nat} {i j:Nat} (hij:i≤j) (hj:j≤w.length):memS (.star a) w i j↔i=j∨∃ k,i+1≤k∧k≤j∧memS a w i k∧memS (.star a) w k j:=by
 constructor
 ·intro h;rcases StarL.first h with h|⟨u,v,hu,h,h1,h2⟩
  ·have hl:=Zdk hij hj;rw[h] at hl;simp at hl;exact .inl (by omega)
  obtain⟨hk,e1,e2⟩:=Ze5 hij hj h;have hpos:=List.length_pos_iff.2 hu;exact .inr ⟨i+u.length,by omega,hk,by unfold memS;rw[← e1];exact h1,by unfold memS;rw[← e2];exact h2⟩
 rintro(rfl|⟨k,h1,h2,h3,h4⟩)
 ·unfold memS;rw[Zip];exact StarL.nil
 unfold memS;rw[Zdw (show i≤k by omega) h2];exact StarL.cons h3 h4
def stR (A:Nat→Nat→Prop):Nat→Nat→Nat→Prop
 | 0,i,j=>i=j
 | m+1,i,j=>stR A m i j∨∃ k,i≤k∧k≤j∧stR A m i k∧A k j
theorem Zlx {A:Nat→Nat→Prop} {i j:Nat}:∀ {m n:Nat},m≤n→stR A m i j→stR A n i j
 | m,n,h,hm=>by
  induction n with
  | zero=>obtain rfl:m=0:=by omega
          exact hm
  | succ n ih =>
   by_cases he:m=n+1
   ·subst he;exact hm
   exact .inl (ih (by omega))
theorem Zgo {a:Ex} {w:List Nat}:∀ (m:Nat) {i j:Nat},i≤j→j≤w.length→stR (memS a w) m i j→memS (.star a) w i j
 | 0,i,j,hij,hj,h=>(ZkA hij hj).2 (.inl h)
 | m+1,i,j,hij,hj,h=>by
  rcases h with h|⟨k,h1,h2,h3,h4⟩
  ·exact Zgo m hij hj h
  have hs:=Zgo m h1 (by omega) h3;unfold memS at hs h4 ⊢;rw[Zdw h1 h2];exact StarL.snoc hs h4
theorem Zlw {a:Ex} {w:List Nat}:∀ (d:Nat) {i j:Nat},i≤j→j≤w.length→j-i≤d→memS (.star a) w i j→stR (memS a w) d i j:=by
 intro d
 induction d with
 | zero =>intro i j hij hj hd h;exact(show i=j by omega)
 | succ d ih =>
  intro i j hij hj hd h;rcases StarL.last h with h|⟨u,v,hv,h,h1,h2⟩
  ·have hl:=Zdk hij hj;rw[h] at hl;simp at hl;exact Zlx (Nat.zero_le _) (show i=j by omega)
  obtain⟨hk,e1,e2⟩:=Ze5 hij hj h;have hl:=Zdk hij hj;rw[h,List.length_append] at hl;have hpos:=List.length_pos_iff.2 hv;exact .inr ⟨i+u.length,by omega,hk,ih (by omega) (by omega) (by omega) (by unfold memS;rw[← e1];exact h1),by unfold memS;rw[← e2];exact h2⟩
theorem ZmQ {a:Ex} {w:List Nat} {i j:Nat} (hij:i≤j) (hj:j≤w.length):stR (memS a w) w.length i j↔memS (.star a) w i j :=
 ⟨Zgo _ hij hj,Zlw _ hij hj (by omega)⟩
end Go.Proofs.Ytfanhfcamblghaa
namespace Go.Proofs.Ytfanhfcamblghaa
open Go.RowKit
def Zak (n:Nat) (F:Nat→Nat→Bool) (a b:Nat):Bool:=decide (a≤b∧b≤n)&&F a b
def ZfR (A B:Nat→Nat→Bool) (i j:Nat):Bool:=(List.range 9).any fun k=>decide (i≤k∧k≤j)&&(A i k&&B k j)
theorem ZdK {A B:Nat→Nat→Bool} {n i j:Nat} (hn:n≤8) (hj:j≤n):ZfR A B i j=true↔∃ k,i≤k∧k≤j∧A i k=true∧B k j=true:=by
 unfold ZfR;rw[List.any_eq_true];constructor
 ·rintro⟨k,-,h⟩;rw[Bool.and_eq_true,Bool.and_eq_true,decide_eq_true_eq] at h;exact⟨k,h.1.1,h.1.2,h.2.1,h.2.2⟩
 rintro⟨k,h1,h2,h3,h4⟩;refine⟨k,List.mem_range.2 (by omega),?_⟩;rw[Bool.and_eq_true,Bool.and_eq_true,decide_eq_true_eq];exact⟨⟨h1,h2⟩,h3,h4⟩
def stB (n:Nat) (A:Nat→Nat→Bool):Nat→Nat→Nat→Bool
 | 0=>fun i j=>decide (i=j)
 | m+1=>fun i j=>stB n A m i j||ZfR (Zak n (stB n A m)) A i j
theorem Za3 {n i j:Nat} (F:Nat→Nat→Bool) (h1:i≤j) (h2:j≤n):Zak n F i j=F i j:=by unfold Zak;rw[decide_eq_true ⟨h1,h2⟩,Bool.true_and]
theorem ZhL {n:Nat} (hn:n≤8) (A:Nat→Nat→Bool):∀ (m:Nat) {i j:Nat},i≤j→j≤n→(stB n A m i j=true↔stR (fun a b=>A a b=true) m i j)
 | 0,i,j,_,_=>by simp[stB,stR]
 | m+1,i,j,hij,hj=>by show(stB n A m i j||ZfR _ A i j)=true↔stR _ m i j∨_;rw[Bool.or_eq_true,ZhL hn A m hij hj,ZdK hn hj];refine or_congr Iff.rfl (exists_congr fun k=>and_congr_right fun h1=>and_congr_right fun h2 => ?_);rw[Za3 _ h1 (by omega),ZhL hn A m h1 (by omega)]
theorem Ze1 {A B:Nat→Nat→Prop} {n:Nat} (h:∀ a b,a≤b→b≤n→(A a b↔B a b)):∀ (m:Nat) {i j:Nat},i≤j→j≤n→(stR A m i j↔stR B m i j)
 | 0,_,_,_,_=>Iff.rfl
 | m+1,i,j,hij,hj=>or_congr (Ze1 h m hij hj) (exists_congr fun k=>and_congr_right fun h1=>and_congr_right fun h2=>and_congr (Ze1 h m h1 (by omega)) (h k j h2 hj))
def tabE (n:Nat) (ls:List Nat):Ex→Nat→Nat→Bool
 | .zero=>fun _ _=>false
 | .one=>fun i j=>decide (i=j)
 | .ltr c=>fun i j=>decide (j=i+1∧ls.getD i 0=c.val)
 | .join a b=>ZfR (Zak n (tabE n ls a)) (Zak n (tabE n ls b))
 | .alt a b=>fun i j=>Zak n (tabE n ls a) i j||Zak n (tabE n ls b) i j
 | .both a b=>fun i j=>Zak n (tabE n ls a) i j&&Zak n (tabE n ls b) i j
 | .neg a=>fun i j => !Zak n (tabE n ls a) i j
 | .star a=>stB n (Zak n (tabE n ls a)) n
theorem Zbv {n:Nat} {ls:List Nat} (hl:ls.length=n) (hn:n≤8):∀ (t:Ex) {i j:Nat},i≤j→j≤n→(tabE n ls t i j=true↔memS t ls i j)
 | .zero,i,j,_,_=>by simp[tabE,Zkz]
 | .one,i,j,hij,hj=>by rw[ZlP hij (by omega)];simp[tabE]
 | .ltr c,i,j,hij,hj=>by rw[ZlQ hij (by omega)];simp[tabE]
 | .join a b,i,j,hij,hj=>by
  rw[ZkB hij (by omega)];show ZfR _ _ i j=true↔_;rw[ZdK hn hj];refine exists_congr fun k=>and_congr_right fun h1=>and_congr_right fun h2 => ?_
  rw[Za3 _ h1 (by omega),Za3 _ h2 hj,Zbv hl hn a h1 (by omega),Zbv hl hn b h2 hj]
 | .alt a b,i,j,hij,hj=>by show(Zak n _ i j||Zak n _ i j)=true↔_;rw[Za3 _ hij hj,Za3 _ hij hj,Bool.or_eq_true,Zbv hl hn a hij hj,Zbv hl hn b hij hj];rfl
 | .both a b,i,j,hij,hj=>by show(Zak n _ i j&&Zak n _ i j)=true↔_;rw[Za3 _ hij hj,Za3 _ hij hj,Bool.and_eq_true,Zbv hl hn a hij hj,Zbv hl hn b hij hj];rfl
 | .neg a,i,j,hij,hj=>by show(!Zak n _ i j)=true↔¬ memS a ls i j;rw[Za3 _ hij hj,← Zbv hl hn a hij hj];simp
 | .star a,i,j,hij,hj=>by show stB n _ n i j=true↔_;rw[ZhL hn _ n hij hj,← ZmQ hij (by omega),hl];refine Ze1 (n:=n) (fun x y hx hy => ?_) n hij hj;rw[Za3 _ hx hy,Zbv hl hn a hx hy]
theorem Zlt {ls:List Nat} (hn:ls.length≤8) (t:Ex):tabE ls.length ls t 0 ls.length=true↔memE t ls:=by rw[Zbv rfl hn t (Nat.zero_le _) (Nat.le_refl _)];unfold memS;rw[ZmS]
def lsT (l:List Nat):List Nat:=l.map (·-97)
theorem ZkD (l:List Nat):(lsT l).length=l.length:=by simp[lsT]
theorem Zc4 {l:List Nat} (h:wdOk l=true):l.length≤8∧∀ i,i<l.length→97≤l.getD i 0∧l.getD i 0≤99:=by unfold wdOk okT at h;rw[Bool.and_eq_true,decide_eq_true_eq,List.all_eq_true] at h;refine⟨h.2,fun i hi => ?_⟩;have h1:=h.1 i (List.mem_range.2 hi);simp only[inB,Bool.and_eq_true,decide_eq_true_eq] at h1;omega
def accX (l:List Nat) (t:Ex):Bool:=tabE l.length (lsT l) t 0 l.length
def AccO (es:List (Int × Int)) (l:List Nat) (r:Bool):Prop:=(exOk es=true∧wdOk l=true∧∃ t:Ex,t.post=es∧accX l t=r)∨((exOk es=false∨wdOk l=false)∧r=false)
theorem ZdD:∀ t:Ex,Zdd t→plnE t:=by
 intro t
 induction t with
 | zero=>exact fun _=>trivial
 | one=>exact fun _=>trivial
 | ltr c=>exact fun _=>trivial
 | join a b ha hb=>exact fun h=>⟨ha h.1,hb h.2⟩
 | alt a b ha hb=>exact fun h=>⟨ha h.1,hb h.2⟩
 | both a b ha hb=>exact fun h=>h.elim
 | neg a ha=>exact fun h=>h.elim
 | star a ha=>exact fun h=>ha h
theorem Zke (es:List (Int × Int)):∃ o,PosQ es o:=by
 cases h:exOk es with
 | true =>
  cases h2:Zaw es with
  | true =>obtain⟨t,ht⟩:=parse h;exact⟨posO t,.inl ⟨h,h2,t,ht,rfl⟩⟩
  | false=>exact⟨none,.inr ⟨.inr h2,rfl⟩⟩
 | false=>exact⟨none,.inr ⟨.inl h,rfl⟩⟩
theorem Zch (es:List (Int × Int)) (o:Option NfaD) (ho:PosQ es o) (v:Value) (w:World) (h:Pairs 0 w v es) :
  Calls Try.prog 7 #[v] w fun e w'=>RNt (o.getD zeN) o.isSome w e w':=by
 rcases ho with⟨hok,hpl,t,rfl,rfl⟩|⟨hbad,rfl⟩
 ·exact ZeA t (ZdD t (Zcb t hpl)) hpl (ZaF hok).2.2.2 v w h
 have hf:(exOk es&&Zaw es)=false:=by
  rcases hbad with h|h
  ·rw[h];rfl
  rw[h,Bool.and_false]
 have HS0:=qh ((St.start w).alloc w.heap.size rfl #[.int .i64 0,.slice none 0 0,.slice none 0 0,.slice none 0 0] 28);have HI:=qh (Zbi es v _ (h.below HS0.out.bel) false hf);clear h hbad hf
 go_enter Try.func7, Try.ntmps7
 go_wp2_with fail;refine HI.out.mono ?_;rintro e w1 ⟨rfl,hb1⟩;have HS1:=qh (HS0.out.call hb1);clear hb1;have f0:=HS1.out.fr 0 0 rfl;have f1:=HS1.out.fr 0 1 rfl;have f2:=HS1.out.fr 0 2 rfl;have f3:=HS1.out.fr 0 3 rfl;have y0:=HS1.out.cell (v:=.int .i64 0) 0 0 rfl rfl;have y1:=HS1.out.cell (v:=.slice none 0 0) 0 1 rfl rfl;have y2:=HS1.out.cell (v:=.slice none 0 0) 0 2 rfl rfl;have y3:=HS1.out.cell (v:=.slice none 0 0) 0 3 rfl rfl;go_wp2;have hq:=((((HS1.out.set 0 rfl 0 (.int .i64 0)).set 0 rfl 1 (.slice none 0 0)).set 0 rfl 2 (.slice none 0 0)).set 0 rfl 3 (.slice none 0 0));have q0:=hq.cell (v:=.int .i64 0) 0 0 rfl rfl;have q1:=hq.cell (v:=.slice none 0 0) 0 1 rfl rfl;have q2:=hq.cell (v:=.slice none 0 0) 0 2 rfl rfl;have q3:=hq.cell (v:=.slice none 0 0) 0 3 rfl rfl;refine bodyPost_ret (v:=.tuple #[.agg #[.int .i64 0,.slice none 0 0,.slice none 0 0,.slice none 0 0],.bool false]) (by simp[results,Try.results7,go_sem,q0,q1,q2,q3]) rfl ?_;exact ZaJ hq.bel
theorem Zb8 (es:List (Int × Int)) (o:Option NfaD) (ho:PosQ es o) (v:Value) (w:World) (hl:es.length≤100) (h:Pairs 0 w v es) :
  Calls Try.prog 8 #[v] w fun e w'=>RNt (o.getD zeN) o.isSome w e w':=by
 rcases ho with⟨hok,hpl,t,rfl,rfl⟩|⟨hbad,rfl⟩
 ·exact Zew t (ZdD t (Zcb t hpl)) hpl (ZaF hok).2.2.2 v w h
 have HS0:=qh ((St.start w).alloc w.heap.size rfl #[.int .i64 0,.slice none 0 0,.slice none 0 0,.slice none 0 0] 28);have HP:=qh h;obtain⟨r,hr⟩:=eJ (exOk es);have HLP:=qh (fun (u:World) hu=>Zbr es v u hl hu);have HEV:=qh (fun (u:World) hu=>ZcD es v u (by omega) hu r hr);have HPL:=qh (fun (u:World) (hu:Pairs 0 u v es) (hh:Zaw es=false)=>Zeq es v u (by omega) hu false hh)
 have hpf:(r=true)→Zaw es=false:=fun h1=>by
  rcases hbad with h|h
  ·rw[hr,h1] at h;cases h
  exact h
 obtain⟨lp,hlp⟩:∃ l,lpL es=l:=⟨_,rfl⟩;rw[hlp] at HLP;replace hlp:=qh hlp;have Hpf:=qh hpf;clear h hbad hr hpf
 go_enter Try.func8, Try.ntmps8
 go_wp2_with fail;refine(HLP.out _ (HP.out.below HS0.out.bel)).mono ?_;rintro e w1 ⟨aP,cP,rfl,hS1⟩;have HS1:=qh (HS0.out.cat hS1);clear hS1;go_wp2_with fail;refine(HEV.out _ (HP.out.below HS1.out.bel)).mono ?_;rintro e w2 ⟨rfl,hb2⟩;have HS2:=qh (HS1.out.call hb2);clear hb2;cases r with
 | false =>have f0:=HS2.out.fr 0 0 rfl;have f1:=HS2.out.fr 0 1 rfl;have f2:=HS2.out.fr 0 2 rfl;have f3:=HS2.out.fr 0 3 rfl;have y0:=HS2.out.cell (v:=.int .i64 0) 0 0 rfl rfl;have y1:=HS2.out.cell (v:=.slice none 0 0) 0 1 rfl rfl;have y2:=HS2.out.cell (v:=.slice none 0 0) 0 2 rfl rfl;have y3:=HS2.out.cell (v:=.slice none 0 0) 0 3 rfl rfl;go_wp2;have hq:=((((HS2.out.set 0 rfl 0 (.int .i64 0)).set 0 rfl 1 (.slice none 0 0)).set 0 rfl 2 (.slice none 0 0)).set 0 rfl 3 (.slice none 0 0));have q0:=hq.cell (v:=.int .i64 0) 0 0 rfl rfl;have q1:=hq.cell (v:=.slice none 0 0) 0 1 rfl rfl;have q2:=hq.cell (v:=.slice none 0 0) 0 2 rfl rfl;have q3:=hq.cell (v:=.slice none 0 0) 0 3 rfl rfl;refine bodyPost_ret (v:=.tuple #[.agg #[.int .i64 0,.slice none 0 0,.slice none 0 0,.slice none 0 0],.bool false]) (by simp[results,Try.results8,go_sem,q0,q1,q2,q3]) rfl ?_;exact ZaJ hq.bel
 | true =>go_wp2_with fail;refine(HPL.out _ (HP.out.below HS2.out.bel) (Hpf.out trivial)).mono ?_;rintro e w3 ⟨rfl,hb3⟩;have HS3:=qh (HS2.out.call hb3);clear hb3;have f0:=HS3.out.fr 0 0 rfl;have f1:=HS3.out.fr 0 1 rfl;have f2:=HS3.out.fr 0 2 rfl;have f3:=HS3.out.fr 0 3 rfl;have y0:=HS3.out.cell (v:=.int .i64 0) 0 0 rfl rfl;have y1:=HS3.out.cell (v:=.slice none 0 0) 0 1 rfl rfl;have y2:=HS3.out.cell (v:=.slice none 0 0) 0 2 rfl rfl;have y3:=HS3.out.cell (v:=.slice none 0 0) 0 3 rfl rfl;go_wp2;have hq:=((((HS3.out.set 0 rfl 0 (.int .i64 0)).set 0 rfl 1 (.slice none 0 0)).set 0 rfl 2 (.slice none 0 0)).set 0 rfl 3 (.slice none 0 0));have q0:=hq.cell (v:=.int .i64 0) 0 0 rfl rfl;have q1:=hq.cell (v:=.slice none 0 0) 0 1 rfl rfl;have q2:=hq.cell (v:=.slice none 0 0) 0 2 rfl rfl;have q3:=hq.cell (v:=.slice none 0 0) 0 3 rfl rfl;refine bodyPost_ret (v:=.tuple #[.agg #[.int .i64 0,.slice none 0 0,.slice none 0 0,.slice none 0 0],.bool false]) (by simp[results,Try.results8,go_sem,q0,q1,q2,q3]) rfl ?_;exact ZaJ hq.bel
theorem ZcJ (bs:List Nat) (v:Value) (w:World) (hb:Bytes 0 w v bs) (hlen:bs.length≤100000000) :
  Calls Try.prog 6 #[v] w fun e w'=>∃ (es:List (Int × Int)) (v:Value),es.length≤100∧e = .returned v∧Pairs 0 w' v es∧Below w.heap.size w w':=by
 have Hb:=qh hb;clear hb
 go_enter Try.func6, Try.ntmps6
 go_wp2_with fail;refine(Zkm bs v _ Hb.out hlen).mono ?_;rintro e w1 ⟨vb,bs',hl',hB,rfl,hS'⟩;have hB1:=hB w Hb.out;have HB:=qh hB1;have HS1:=qh (hS'.add (Below.refl _ _) Ent.nil trivial fun k hk=>hk.elim);clear hS' hB hB1;go_wp2_with fail;refine(Zhg bs' vb w.heap.size 0 6 w w1 _ HB.out hl' (by omega) (by omega) HS1.out).mono ?_;rintro e w2 ⟨v2,es,E,pn,hel,hh,rfl,hS2⟩;have HS:=qh hS2;have HH:=qh hh;clear hS2 hh;go_wp2;go_ret;exact⟨es,v2,hel,rfl,HH.out.r HS.out 2 rfl,HS.out.bel⟩
theorem Zlo {l:List Nat} (hw:wdOk l=true) (t:Ex):accX l t=true↔memE t (lets l):=by
 have h8:(lsT l).length≤8:=by rw[ZkD];exact(Zc4 hw).1
 have:=Zlt h8 t;rw[ZkD] at this;exact this
theorem ZgA {es:List (Int × Int)} {N:NfaD} (h:PosQ es (some N)):Zaq N=true∧(∀ l r,AccO es l r→accT N l=r)∧(∀ x,x∈N.moves→0≤x.2.1∧x.2.2≠0)∧N.states=((lpL es).length:Int)+1∧∃ t:Ex,t.post=es∧es.length≤60∧accT N []=hasE t:=by
 rcases h with⟨hex,hpl,t,rfl,hb⟩|⟨-,h⟩
 ·have hp:=ZdD t (Zcb t hpl);have h60:=(ZaF hex).2.2.2;unfold posO at hb
  split at hb
  ·cases hb
  split at hb
  ·rename_i hok;obtain rfl:=Option.some.inj hb;have hlang:=fun w=>Ziv hp h60 w
   have hacc:∀ l,wdOk l=true→(accT (posN t) l=true↔memE t (lets l)):=fun l hw=>by unfold accT;rw[hok,hw,Bool.true_and,Bool.true_and,Zbf hok];exact hlang _
   refine⟨hok,fun l r hr => ?_,fun x hx => ?_,?_,t,rfl,h60,?_⟩
   ·rcases hr with⟨-,hwd,u,hu,hx⟩|⟨h1|h1,rfl⟩
    ·obtain rfl:=Ziu hu;rw[← hx,Bool.eq_iff_iff,hacc l hwd,Zlo hwd]
    ·rw[hex] at h1;cases h1
    unfold accT;rw[h1];simp
   ·obtain⟨i,j,h1,h2,h3,rfl⟩:=ZgG.1 hx;have hj0:j≠0:=fun h=>by rw[h,ZdA] at h3;cases h3
    refine⟨?_,by show(j:Int)≠0;omega⟩;have hpm:(lpF t.post t.post.length).getD (j-1) 0∈lpF t.post t.post.length:=Zcj (by omega);have h4:=Zb4.1 hpm;exact(Zfp hex h4.1 h4.2).1
   ·rw[ZiB h60];rfl
   rw[Bool.eq_iff_iff,hacc [] (by decide),Zc9];rfl
  cases hb
 cases h
theorem Try.plainMove:Try.prog.underlying 34 = some (.struct (Try.prog.fieldsOf 34)):=by kernel_rfl
theorem Try.moveFields : (Try.prog.fieldsOf 34).toList.map (fun f => (f.name == "_", f.type, f.offset)) = [(false, 3, 0), (false, 3, 1), (false, 3, 2)] := by kernel_rfl
theorem Try.guardMove:Try.prog.eqGuardType Try.prog.depth 34 = false:=by kernel_rfl
theorem Try.heldMove:Try.prog.stoodInHeld 34 = false:=by kernel_rfl
theorem ZkZ {P:Program} {ti:TypeId} {fs:List Field} (d:Nat) (x1 x2 x3 y1 y2 y3:Int) (w:World) (hi:P.underlying ti=some (.int .i64))
  (hf : fs.map (fun f => (f.name == "_", f.type, f.offset)) = [(false, ti, 0), (false, ti, 1), (false, ti, 2)]) :
  (Op.eqFields (d+1) #[.int .i64 x1,.int .i64 x2,.int .i64 x3] #[.int .i64 y1,.int .i64 y2,.int .i64 y3] fs).run P w = .ok (x1==y1&&(x2==y2&&x3==y3)) w:=by
 obtain⟨f,g,h,rfl⟩:∃ f g h,fs=[f,g,h]:=by
  have hl:fs.length=3:=by simpa using congrArg List.length hf
  match fs with
  | []=>simp at hl
  | [_]=>simp at hl
  | [_,_]=>simp at hl
  | [f,g,h]=>exact⟨f,g,h,rfl⟩
  | _::_::_::_::_=>simp at hl
 simp only[List.map_cons,List.map_nil,List.cons.injEq,Prod.mk.injEq,and_true] at hf
 obtain⟨⟨f1,f2,f3⟩,⟨g1,g2,g3⟩,h1,h2,h3⟩:=hf
 have f1' : f.name ≠ "_" := by simpa using f1
 have g1' : g.name ≠ "_" := by simpa using g1
 have h1' : h.name ≠ "_" := by simpa using h1
 simp only[Op.eqFields,f1',g1',h1',f2,f3,g2,g3,h2,h3,ne_eq,not_false_eq_true,if_true]
 cases e1:x1==y1<;>cases e2:x2==y2<;>cases e3:x3==y3<;>simp[go_sem,hi,e1,e2,e3,part,isAgg,run_underlying hi]
@[go_sem high] theorem Try.neqMove (x1 x2 x3:Int) (w:World):(binOp .neq 34 (.agg #[.int .i64 x1,.int .i64 x2,.int .i64 x3]) (.agg #[.int .i64 x1,.int .i64 x2,.int .i64 x3])).run Try.prog w = .ok (.bool false) w:=by rw[run_neq_struct,show(10000:Nat)=9998+1+1 from rfl,run_equalIn_struct w _ _ _ _ Try.plainMove Try.heldMove,ZkZ (ti:=3) _ _ _ _ _ _ _ _ Try.underlying3 Try.moveFields];simp
@[go_sem high] theorem Try.neqMoveGuard (x y:Operand) (xs ys:Array Value) (w:World):(eqGuard .neq 34 x y (.agg xs) (.agg ys)).run Try.prog w = .ok () w:=run_eqGuard_agg _ _ _ _ _ _ _ Try.guardMove
theorem Ze6 (n:NfaD) (a b:Value) (w:World) (h1:NfaR 0 w a n) (h2:NfaR 0 w b n) :
  Calls Try.prog 9 #[a,b] w fun e w'=>e = .returned (.bool true)∧Below w.heap.size w w':=by
 obtain⟨v1,v2,v3,rfl,g1,g2,g3,hs0,hs1⟩:=h1;obtain⟨u1,u2,u3,rfl,k1,k2,k3,-,-⟩:=h2;obtain⟨a1,c1,rfl,hc1,hm1,hr1⟩:=g1.form;obtain⟨b1,d1,rfl,hd1,hn1,hq1⟩:=k1.form;obtain⟨ns,hns⟩:=eI (n.states);rw[← hns];have G2:=qh g2;have G3:=qh g3;have K2:=qh k2;have K3:=qh k3;have hS0:=((St.start w).alloc _ rfl #[.int .i64 ns,.slice a1 n.moves.length c1,v2,v3] 28).alloc (w.heap.size+1) (by simp) #[.int .i64 ns,.slice b1 n.moves.length d1,u2,u3] 28;have e0:=hS0.cell (v:=.int .i64 ns) 0 0 rfl rfl;have e1:=hS0.cell (v:=.slice a1 n.moves.length c1) 0 1 rfl rfl;have f0:=hS0.cell (v:=.int .i64 ns) 1 0 rfl rfl;have f1:=hS0.cell (v:=.slice b1 n.moves.length d1) 1 1 rfl rfl;have hne:(ns != ns)=false:=by simp
 have hne2:((n.moves.length:Int) != n.moves.length)=false:=by simp
 replace hS0:=qh hS0;have Hhns:=qh hns;clear hns;have Hhr1:=qh hr1;clear hr1;have Hhq1:=qh hq1;clear hq1;clear g1 g2 g3 k1 k2 k3
 go_enter Try.func9, Try.ntmps9
 go_wp2
 go_loopw [5] (fun i wr=>∃ k:Nat,i = .int .i64 k∧k≤n.moves.length∧St w wr [Ent.box w.heap.size #[.int .i64 ns,.slice a1 n.moves.length c1,v2,v3] 28,Ent.box (w.heap.size+1) #[.int .i64 ns,.slice b1 n.moves.length d1,u2,u3] 28]) (fun i _=>n.moves.length-(intOf i).toNat)
 case atStart=>exact⟨0,rfl,Nat.zero_le _,hS0.out⟩
 case round =>
  obtain⟨k,rfl,hk,hS⟩:=hrel;clear e0 e1 f0 f1;by_cases hlt:k<n.moves.length
  ·have hkI:(k:Int)<n.moves.length:=by omega
   obtain⟨x1,y1,rfl,-,hbl1,hcs1⟩:=Hhr1.out (by omega);obtain⟨x2,y2,rfl,-,hbl2,hcs2⟩:=Hhq1.out (by omega);obtain⟨p1,p2,p3⟩:=hcs1 k hlt;obtain⟨q1,q2,q3⟩:=hcs2 k hlt;replace p1:=(bcell hS.bel x1 _ hbl1).trans p1;replace p2:=(bcell hS.bel x1 _ hbl1).trans p2;replace p3:=(bcell hS.bel x1 _ hbl1).trans p3;replace q1:=(bcell hS.bel x2 _ hbl2).trans q1;replace q2:=(bcell hS.bel x2 _ hbl2).trans q2;replace q3:=(bcell hS.bel x2 _ hbl2).trans q3;have e1:=hS.cell (v:=.slice (some ⟨x1,y1,none⟩) n.moves.length c1) 0 1 rfl rfl;have f1:=hS.cell (v:=.slice (some ⟨x2,y2,none⟩) n.moves.length d1) 1 1 rfl rfl;obtain⟨x,hx⟩:=eJ (n.moves.getD k (0,0,0));rw[hx] at p1 p2 p3 q1 q2 q3;obtain⟨f,l,t⟩:=x;simp only at p1 p2 p3 q1 q2 q3;have Hhx:=qh hx;clear hx;replace hS:=qh hS;clear hcs1 hcs2;go_wp2_with fail
   go_quiet (fail)
   go_wp2;go_roundw
   case rel=>exact⟨k+1,by go_num,by omega,hS.out.drewN nq⟩
   case measure=>simp[intOf];omega
  obtain rfl:k=n.moves.length:=by omega
  have e1:=hS.cell (v:=.slice a1 n.moves.length c1) 0 1 rfl rfl;have e2:=hS.cell (v:=v2) 0 2 rfl rfl;have e3:=hS.cell (v:=v3) 0 3 rfl rfl;have f2:=hS.cell (v:=u2) 1 2 rfl rfl;have f3:=hS.cell (v:=u3) 1 3 rfl rfl;have HS:=qh hS;clear hS;go_wp2_with fail;refine(Zem n.firsts n.firsts _ _ _ (G2.out.below HS.out.bel) (K2.out.below HS.out.bel) true (by simp)).mono ?_;rintro e w4 ⟨rfl,hb4⟩;have HS4:=qh (HS.out.call hb4);clear hb4 e2 e3 f2 f3;have e3:=HS4.out.cell (v:=v3) 0 3 rfl rfl;have f3:=HS4.out.cell (v:=u3) 1 3 rfl rfl;go_wp2_with fail;refine(Zem n.ends n.ends _ _ _ (G3.out.below HS4.out.bel) (K3.out.below HS4.out.bel) true (by simp)).mono ?_;rintro e w5 ⟨rfl,hb5⟩;have HS5:=qh (HS4.out.call hb5);clear hb5;go_wp2;go_ret;exact⟨rfl,HS5.out.bel⟩
theorem Bx.only {lo hi b:Nat} {w w':World} {cs:Array Value} {T:TypeId} (h:Bx w b cs T) (ho:Only lo hi w w') (hd:b<lo∨hi≤b):Bx w' b cs T:=(ho.block b h.lt hd).trans h
theorem DfaO.only {tS tI tB lo hi lo' hi':Nat} {w w':World} {v:Value} {d:DfaD} (h:DfaO tS tI tB lo hi w v d) (ho:Only lo' hi' w w') (hd:hi≤lo'∨hi'≤lo):DfaO tS tI tB lo hi w' v d:=by obtain⟨v1,v2,hv,h1,h2⟩:=h;exact⟨v1,v2,hv,h1.only ho hd,h2.only ho hd⟩
theorem DfaO.below {tS tI tB lo hi:Nat} {w w':World} {v:Value} {d:DfaD} (h:DfaO tS tI tB lo hi w v d) (hb:Below w.heap.size w w'):DfaO tS tI tB lo hi w' v d:=by obtain⟨v1,v2,hv,h1,h2⟩:=h;exact⟨v1,v2,hv,h1.below hb,Own.below h2 hb⟩
end Go.Proofs.Ytfanhfcamblghaa
namespace Go.Proofs.Ytfanhfcamblghaa
open Go.ChangeShapes Go.WideShapes Go.ChangeAt Go.RowKit Go.Joins
theorem Try.own:ownKnob Try.prog.godebug=none:=by kernel_rfl
section
variable {H:Type} {enc:TypeId × Value→H} {W:World}
end
end Go.Proofs.Ytfanhfcamblghaa
namespace Go.Proofs.Ytfanhfcamblghaa
open Go.ChangeShapes Go.WideShapes Go.ChangeAt Go.RowKit Go.Joins
theorem Try.cellsByte:Try.prog.cellsOf 5 = 1:=by kernel_rfl
theorem Try.recLBytes:Try.prog.readableRec 22 = true:=by kernel_rfl
theorem Try.rowLBytes:(22:TypeId)<Try.prog.types.size:=of_decide_eq_true (by kernel_rfl)
section
variable {H:Type} {enc:TypeId × Value→H} {W:World}
theorem Zdl {held:Bool} {v:Value} {d:DataW H} {p:List MemPlace} (h:DataW.Trod enc Try.prog W 0 (fun _=>true) held 22 v d p) (hv:v.cells.toList=[v]):∃ bs,Bytes 0 W v bs:=by obtain⟨fuel,hf⟩:=h;obtain⟨u,bs,hu,hx⟩:=Zg8 Try.underlying22 Try.underlying5 Try.cellsByte hf;rw[hv] at hu;simp only[List.cons.injEq,and_true] at hu;subst hu;exact⟨bs,hx⟩
end
end Go.Proofs.Ytfanhfcamblghaa
