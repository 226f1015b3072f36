/-
  Plain: the automaton with choices that is built of an expression, and its language.
  Condition: the expression has neither both nor not.
-/
import Derived.Test.YtfanhfcamblghaaPq39Il
namespace Go.Proofs.Ytfanhfcamblghaa
open Go.RowKit
def optN (q:NfaD × Bool):Option NfaD:=if q.2=true then some q.1 else none
def ZcL (k:Int) (a b:NfaD):Option NfaD:=if k=5 then optN (ZcN a b) else optN (ZcM a b)
def bldE:Ex→Option NfaD
 | .zero=>some (Zcg (1,0))
 | .one=>some (Zcg (2,0))
 | .ltr c=>some (Zcg (3,(c.val:Int)))
 | .join a b=>(bldE a).bind fun x=>(bldE b).bind fun y=>ZcL 4 x y
 | .alt a b=>(bldE a).bind fun x=>(bldE b).bind fun y=>ZcL 5 x y
 | .star a=>(bldE a).bind fun x=>optN (ZbP x)
 | .both _ _=>none
 | .neg _=>none
def Zev (p:Int × Int) (st:List NfaD):Option (List NfaD) :=
 if Zaa p=0 then some (Zcg p::st)
 else if Zaa p=1 then
  match st with
  | a::r=>(optN (ZbP a)).map (·::r)
  | []=>none
 else
  match st with
  | b::a::r=>(ZcL p.1 a b).map (·::r)
  | _=>none
def runB:List (Int × Int)→List NfaD→Option (List NfaD)
 | [],st=>some st
 | p::ps,st=>(Zev p st).bind (runB ps)
theorem Zj6:∀ (t:Ex) (rest:List (Int × Int)) (st:List NfaD),Zdd t→runB (t.post++rest) st=(bldE t).bind fun d=>runB rest (d::st):=by
 intro t
 induction t with
 | zero=>exact fun rest st _=>rfl
 | one=>exact fun rest st _=>rfl
 | ltr c =>
  intro rest st _;have e:Zev (3,(c.val:Int)) st=some (Zcg (3,(c.val:Int))::st):=by unfold Zev;rw[if_pos (Zbk c)]
  show(Zev (3,(c.val:Int)) st).bind (runB rest)=_;rw[e];rfl
 | join a b ha hb =>
  intro rest st hp;show runB ((a.post++b.post++[(4,0)])++rest) st=_;rw[List.append_assoc,List.append_assoc,ha _ _ hp.1];show _=((bldE a).bind fun x=>(bldE b).bind fun y=>ZcL 4 x y).bind _;cases hx:bldE a with
  | none=>rfl
  | some x =>
   show runB (b.post++([(4,0)]++rest)) (x::st)=((bldE b).bind fun y=>ZcL 4 x y).bind _;rw[hb _ _ hp.2];cases hy:bldE b with
   | none=>rfl
   | some y =>show((ZcL 4 x y).map (·::st)).bind (runB rest)=(ZcL 4 x y).bind _;cases ZcL 4 x y<;>rfl
 | alt a b ha hb =>
  intro rest st hp;show runB ((a.post++b.post++[(5,0)])++rest) st=_;rw[List.append_assoc,List.append_assoc,ha _ _ hp.1];show _=((bldE a).bind fun x=>(bldE b).bind fun y=>ZcL 5 x y).bind _;cases hx:bldE a with
  | none=>rfl
  | some x =>
   show runB (b.post++([(5,0)]++rest)) (x::st)=((bldE b).bind fun y=>ZcL 5 x y).bind _;rw[hb _ _ hp.2];cases hy:bldE b with
   | none=>rfl
   | some y =>show((ZcL 5 x y).map (·::st)).bind (runB rest)=(ZcL 5 x y).bind _;cases ZcL 5 x y<;>rfl
 | both a b ha hb=>exact fun rest st hp=>hp.elim
 | neg a ha=>exact fun rest st hp=>hp.elim
 | star a ha =>
  intro rest st hp;show runB ((a.post++[(8,0)])++rest) st=_;rw[List.append_assoc,ha _ _ hp];show _=((bldE a).bind fun x=>optN (ZbP x)).bind _;cases hx:bldE a with
  | none=>rfl
  | some x =>show((optN (ZbP x)).map (·::st)).bind (runB rest)=(optN (ZbP x)).bind _;cases optN (ZbP x)<;>rfl
theorem Zi6 (t:Ex) (h:Zdd t):runB t.post []=(bldE t).map fun d=>[d]:=by have h:=Zj6 t [] [] h;rw[List.append_nil] at h;rw[h];cases bldE t<;>rfl
theorem Zkj {a n:NfaD} (h:optN (ZbP a)=some n):Zaq a=true∧Zaq n=true∧n=ZbO a:=by
 unfold optN ZbP limN at h;by_cases h1:Zaq a=true
 ·rw[if_pos h1] at h;by_cases h2:Zaq (ZbO a)=true
  ·rw[if_pos h2,if_pos rfl] at h;obtain rfl:=Option.some.inj h;exact⟨h1,h2,rfl⟩
  rw[if_neg h2,if_neg (by decide)] at h;cases h
 rw[if_neg h1,if_neg (by decide)] at h;cases h
theorem Zkk {a b n:NfaD} (h:optN (ZcM a b)=some n):Zaq a=true∧Zaq b=true∧Zaq n=true∧n=Zb5 a b:=by
 unfold optN at h
 split at h
 ·rename_i h1;obtain rfl:=Option.some.inj h;obtain⟨g1,g2,g3,g4⟩:=Zjj (p:=a) (q:=b) (X:=(ZcM a b).1) (by rw[← h1]);exact⟨g1,g2,g3,g4⟩
 cases h
theorem Zkl {a b n:NfaD} (h:optN (ZcN a b)=some n):Zaq a=true∧Zaq b=true∧Zaq n=true∧n=ZdP a b:=by
 unfold optN at h
 split at h
 ·rename_i h1;obtain rfl:=Option.some.inj h;obtain⟨g1,g2,g3,g4⟩:=Zjw (p:=a) (q:=b) (X:=(ZcN a b).1) (by rw[← h1]);exact⟨g1,g2,g3,g4⟩
 cases h
theorem Zm0 {c:Nat} {s t:Int} {x:List Nat} (h:Pth [(0,(c:Int),1)] s x t):(s=0→(x=[]∧t=0)∨(x=[c]∧t=1))∧(s=1→x=[]∧t=1):=by
 induction h with
 | here s=>exact⟨fun h => .inl ⟨rfl,h⟩,fun h=>⟨rfl,h⟩⟩
 | eps hm _ ih =>simp only[List.mem_singleton,Prod.mk.injEq] at hm;omega
 | step hm _ ih =>simp only[List.mem_singleton,Prod.mk.injEq] at hm;obtain⟨rfl,h2,rfl⟩:=hm;obtain⟨h3,rfl⟩:=ih.2 rfl;refine⟨fun _ => .inr ⟨?_,rfl⟩,fun h=>by omega⟩;rw[h3];congr 1;omega
theorem Zm1 {p:Int × Int} (h:p.1=3→0≤p.2∧p.2≤2) (h1:p.1=1∨p.1=2∨p.1=3):Zaq (Zcg p)=true:=by
 obtain⟨k,x⟩:=p;simp only at h h1;rcases h1 with rfl|rfl|rfl
 ·rw[show Zcg (1,x)=zeN from if_pos rfl];decide
 ·rw[show Zcg (2,x)=epsN by unfold Zcg;rw[if_neg (by show ¬ (2:Int)=1;omega),if_pos rfl]];decide
 obtain⟨h2,h3⟩:=h rfl;obtain rfl|rfl|rfl:x=0∨x=1∨x=2:=by omega
 all_goals decide
theorem Zmv:∀ (t:Ex) (n:NfaD),Zdd t→bldE t=some n→Zaq n=true∧∀ x,isW x→(accP n x↔memE t x):=by
 intro t
 induction t with
 | zero =>intro n _ h;obtain rfl:=Option.some.inj h;refine⟨by decide,fun x _=>⟨fun ⟨f,hf,_⟩ => ?_,fun h=>h.elim⟩⟩;exact absurd hf (List.not_mem_nil)
 | one =>intro n _ h;obtain rfl:=Option.some.inj h;exact⟨by decide,fun x _=>(Zbf ZmG x).symm.trans (Znh x)⟩
 | ltr c =>
  intro n _ h;obtain rfl:=Option.some.inj h;refine⟨Zm1 (fun _=>by have:=c.isLt;omega) (.inr (.inr rfl)),fun x _=>⟨?_,?_⟩⟩
  ·rintro⟨f,hf,e,he,hw⟩;obtain rfl:f=0:=List.mem_singleton.1 hf;obtain rfl:e=1:=List.mem_singleton.1 he;rcases(Zm0 hw).1 rfl with⟨-,h⟩|⟨h,-⟩
   ·omega
   exact h
  intro h;obtain rfl:x=[c.val]:=h;exact⟨0,List.mem_singleton.2 rfl,1,List.mem_singleton.2 rfl,.step (List.mem_singleton.2 rfl) (.here _)⟩
 | join a b ha hb =>
  intro n hp h;have h:((bldE a).bind fun x=>(bldE b).bind fun y=>ZcL 4 x y)=some n:=h;rw[Option.bind_eq_some_iff] at h;obtain⟨A,hA,h⟩:=h;rw[Option.bind_eq_some_iff] at h;obtain⟨B,hB,h⟩:=h;obtain⟨h1,h2,h3,rfl⟩:=Zkk (show optN (ZcM A B)=some n from h);obtain⟨-,iA⟩:=ha A hp.1 hA;obtain⟨-,iB⟩:=hb B hp.2 hB;obtain⟨sa,ea,-,hpm,-,hpf,-,hpe,-⟩:=Zao h1;obtain⟨sb,eb,-,hqm,-,hqf,-,hqe,-⟩:=Zao h2;refine⟨h3,fun x hx => ?_⟩;rw[ZkK ea hpm hqm hpf hpe hqf hqe];show _↔∃ u v,x=u++v∧memE a u∧memE b v;constructor
  ·rintro⟨u,v,rfl,hu,hv⟩;exact⟨u,v,rfl,(iA u (ZiF hx)).1 hu,(iB v (Zhk hx)).1 hv⟩
  rintro⟨u,v,rfl,hu,hv⟩;exact⟨u,v,rfl,(iA u (ZiF hx)).2 hu,(iB v (Zhk hx)).2 hv⟩
 | alt a b ha hb =>intro n hp h;have h:((bldE a).bind fun x=>(bldE b).bind fun y=>ZcL 5 x y)=some n:=h;rw[Option.bind_eq_some_iff] at h;obtain⟨A,hA,h⟩:=h;rw[Option.bind_eq_some_iff] at h;obtain⟨B,hB,h⟩:=h;obtain⟨h1,h2,h3,rfl⟩:=Zkl (show optN (ZcN A B)=some n from h);obtain⟨-,iA⟩:=ha A hp.1 hA;obtain⟨-,iB⟩:=hb B hp.2 hB;refine⟨h3,fun x hx => ?_⟩;refine(Zbf h3 x).symm.trans ?_;rw[Zjv h1 h2 h3,Bool.or_eq_true,Zbf h1,Zbf h2];exact or_congr (iA x hx) (iB x hx)
 | both a b ha hb=>exact fun n hp=>hp.elim
 | neg a ha=>exact fun n hp=>hp.elim
 | star a ha =>intro n hp h;have h:((bldE a).bind fun x=>optN (ZbP x))=some n:=h;rw[Option.bind_eq_some_iff] at h;obtain⟨A,hA,h⟩:=h;obtain⟨h1,h3,rfl⟩:=Zkj h;obtain⟨-,iA⟩:=ha A hp hA;obtain⟨sa,ea,-,hpm,-,hpf,-,hpe,-⟩:=Zao h1;refine⟨h3,fun x hx => ?_⟩;rw[ZjP ea hpm hpf hpe];exact StarL.congr (fun u hu=>iA u hu) hx
def BldQ (es:List (Int × Int)) (o:Option NfaD):Prop:=(exOk es=true∧Zaw es=true∧∃ t:Ex,t.post=es∧bldE t=o)∨((exOk es=false∨Zaw es=false)∧o=none)
theorem Znz (es:List (Int × Int)):∃ o,BldQ es o:=by
 cases h:exOk es with
 | false=>exact⟨none,.inr ⟨.inl h,rfl⟩⟩
 | true =>
  cases h2:Zaw es with
  | false=>exact⟨none,.inr ⟨.inr h2,rfl⟩⟩
  | true =>obtain⟨t,ht⟩:=parse h;exact⟨bldE t,.inl ⟨h,h2,t,ht,rfl⟩⟩
theorem ZnN {q:NfaD × Bool} (h:q.2=false→q.1=zeN):(optN q).getD zeN=q.1∧(optN q).isSome=q.2:=by
 unfold optN;obtain⟨n,b⟩:=q;cases b with
 | false=>exact⟨(h rfl).symm,rfl⟩
 | true=>exact⟨rfl,rfl⟩
theorem ZmO (a:NfaD):(ZbP a).2=false→(ZbP a).1=zeN:=by
 unfold ZbP limN
 split
 ·split
  ·intro h;cases h
  intro _;rfl
 intro _;rfl
theorem Zm2 (a b:NfaD):(ZcM a b).2=false→(ZcM a b).1=zeN:=fun h=>Zh6 (p:=a) (q:=b) (X:=(ZcM a b).1) (by rw[← h])
theorem Znp (a b:NfaD):(ZcN a b).2=false→(ZcN a b).1=zeN:=fun h=>Zib (p:=a) (q:=b) (X:=(ZcN a b).1) (by rw[← h])
end Go.Proofs.Ytfanhfcamblghaa
