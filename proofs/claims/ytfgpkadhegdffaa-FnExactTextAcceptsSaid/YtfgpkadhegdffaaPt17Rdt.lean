/-
  The walks over the reference's reader of expressions, l4Read, levels 0 to 4. It reads as the plain reader rdP does.
  Conditions: the text is one of bytes, at most 120.
-/
import Derived.Test.YtfgpkadhegdffaaPt16Rds
set_option maxHeartbeats 16000000
set_option maxRecDepth 100000
namespace Go.Proofs.Ytfgpkadhegdffaa
open Go.RowKit
def enM (S:List Nat) (v:Value):Nat:=if intOf v<0 then 0 else S.length+1-(intOf v).toNat
theorem Zeh (S:List Nat):enM S (.int .i64 (-1))=0:=rfl
theorem Za4 (S:List Nat) (j:Nat):enM S (.int .i64 (j:Int))=S.length+1-j:=by show(if (j:Int)<0 then 0 else S.length+1-(j:Int).toNat)=_;rw[if_neg (by omega),Int.toNat_natCast]
theorem Zhc (n:Nat) (hC:Zek n) (S:List Nat) (i:Nat) (w:World) (hn:fuP 1 (S.drop i)≤n+1) (hl:S.length≤120) (ht:isT S) (hi:i≤S.length) :
  Calls Try.prog 90 #[.string (txB S),.int .i64 (i:Int),.int .i64 0] w fun e w'=>RRs S (rdP jS (n+1) 1 (S.drop i)) w e w':=by
 have hs:=Zah S;have Hht:=qh ht;obtain⟨j0,hj,hy0,hy1,hy2⟩:=info_parts Try.infoPart;obtain⟨r,hr⟩:=eJ (S.drop i);have hrs:r <:+ S:=by rw[← hr];exact List.drop_suffix _ _
 have hrl:r.length≤120:=by have:=hrs.length_le;omega
 rw[hr] at hn ⊢;have hrd:rdP jS (n+1) 1 r=Zan (rdP jS n 2) jS 1 n (rdP jS n 2 r).1 (rdP jS n 2 r).2.1 (rdP jS n 2 r).2.2:=rfl;rw[hrd];have hm:=Zbk jS n 2 r;have hsf:=(ZbA jS n 2 r).trans hrs;have hC1:=hC 2 S i w (by omega) (by omega) (by rw[hr];unfold fuP at hn ⊢;omega) hl ht hi;rw[hr] at hC1;obtain⟨x,hx⟩:=eJ (rdP jS n 2 r);rw[hx] at hC1 hm hsf ⊢;obtain⟨es0,q0,fl0⟩:=x;obtain⟨y,hy⟩:=eJ (Zan (rdP jS n 2) jS 1 n es0 q0 fl0);have hyy0:Zan (rdP jS n 2) jS 1 n (es0,q0,fl0).1 (es0,q0,fl0).2.1 (es0,q0,fl0).2.2=y:=hy;rw[hyy0];have HC1:=qh (show Calls Try.prog 90 #[.string (txB S),.int .i64 (i:Int),.int .i64 1] w fun e w'=>RRs S (es0,q0,fl0) w e w' from hC1);have Hhm:=qh hm;have Hsf:=qh hsf;have Hn:=qh hn;replace hrd:=qh hrd;have Hhx:=qh hx;clear hx;have Hhyy0:=qh hyy0;clear hyy0;have Hhy:=qh hy;clear hy;replace hr:=qh hr;have Hhrs:=qh hrs;clear hrs;clear hC1 hm hsf hn hi
 go_enter Try.func90, Try.ntmps90
 go_wp2_with (go_at_call 90;refine(HC1.out).mono ?_;rintro e w1 ⟨a1,c1,rfl,hS1⟩;replace hS1:=qh hS1)
 go_loopw [12,13] (fun ve vi wr=>(∃ (a:Option Addr) (c:Nat) (es:List (Int × Int)),ve = .slice a es.length c∧vi = .int .i64 (-1)∧y.1=es∧y.2.2=true∧St w wr [Ent.row 39 2 (.slice a es.length c) es.length (es.flatMap Zaa)]) ∨
   (∃ (a:Option Addr) (c:Nat) (es:List (Int × Int)) (r':List Nat) (kk:Nat),ve = .slice a es.length c∧vi = .int .i64 ((S.length-r'.length:Nat):Int)∧(Zan (rdP jS n 2) jS 1 kk es r' false=y∧r'.length<kk)∧r' <:+ S∧meas r.length (es,r',false)∧St w wr [Ent.row 39 2 (.slice a es.length c) es.length (es.flatMap Zaa)])) (fun _ vi _=>enM S vi)
 case atStart =>
  cases fl0 with
  | true =>
   have hy2:y=(es0,q0,true):=by rw[← Hhy.out];cases n<;>rfl
   exact .inl ⟨a1,c1,es0,rfl,rfl,by rw[hy2],by rw[hy2],hS1.out⟩
  | false =>obtain⟨m1,m2,m3⟩:=Hhm.out;obtain⟨m4,m5⟩:=m3 rfl;simp only at m1 m2 m4 m5;exact .inr ⟨a1,c1,es0,q0,n,rfl,rfl,⟨Hhy.out,by have:=Hn.out;unfold fuP at this;omega⟩,Hsf.out,⟨m1,m2,fun _=>⟨m4,m5⟩⟩,hS1.out⟩
 case round =>
  rcases hrel with⟨a,c,es,rfl,rfl,hy1,hy2,hS⟩|⟨a,c,es,r',k1,rfl,rfl,⟨hyy,hkk⟩,hsuf,hme,hS⟩
  ·have HS4:=qh hS;clear hS;go_wp2;subst hy1;refine bodyPost_ret (v:=.tuple #[.slice a y.1.length c,.int .i64 (-1)]) (by simp[results,Try.results90,go_sem]) rfl ?_;exact⟨a,c,by rw[show endI S y = -1 by unfold endI;rw[if_pos hy2]],HS4.out⟩
  obtain⟨kk,rfl⟩:∃ kk,k1=kk+1:=⟨k1-1,by omega⟩;cases r' with
  | nil =>
   have hyy2:y=(es,[],false):=hyy.symm;have Hhyy:=qh hyy2;have HS4:=qh hS;have hle:(S.length:Int)≤((S.length-0:Nat):Int):=by omega
   clear hyy hyy2 hme hsuf;clear hS;simp only[List.length_nil,Nat.sub_zero];go_wp2;refine bodyPost_ret (v:=.tuple #[.slice a es.length c,.int .i64 (S.length:Int)]) (by simp[results,Try.results90,go_sem]) rfl ?_;rw[Hhyy.out];exact⟨a,c,rfl,HS4.out⟩
  | cons d r5 =>
   have HS4:=qh hS;obtain⟨hq1,hq2⟩:=ZdQ hsuf;obtain⟨hj1,hjc,hjd,hjl⟩:=ZaR hq1;obtain⟨j,hjj⟩:=eJ (S.length-(d::r5).length);rw[hjj] at hj1 hjc hjd hjl;rw[hjj];have hjI:(j:Int)<(S.length:Int):=by omega
   have hj0:(0:Int)≤(j:Int):=by omega
   have hw2:IntKind.i64.wrap ((j:Int)+1)=(j:Int)+1:=IntWalk.i64_in _ (by omega);have hd256:d<256:=by rw[← hjc];exact Hht.out _ (ZaE hj1)
   have hjx:=fun u=>Zat (l:=S) (i:=j) hj1 Hht.out u
   rw[hjc] at hjx;have hel:es.length≤1000:=by have:=hme.2.1;simp only at this;omega
   have hjl2:S.length=j+1+r5.length:=hjl;have Hhjj:=qh hjj;clear hjj;have Hhjc:=qh hjc;clear hjc;have Hhjl:=qh hjl;clear hjl;have Hhq1:=qh hq1;clear hq1;clear hS;by_cases hds:d=124
   ·subst hds;have hyy:Zan (rdP jS n 2) jS 1 kk (es++(rdP jS n 2 r5).1++[(opK 1,0)]) (rdP jS n 2 r5).2.1 (rdP jS n 2 r5).2.2=y:=hyy;have hdr:S.drop (j+1)=r5:=hjd;have hm9:=Zbk jS n 2 r5;have hsf9:=(ZbA jS n 2 r5).trans (by rw[← hdr];exact List.drop_suffix _ _:r5 <:+ S);have hlr:(r5).length≤r.length:=by have:=hme.1;simp at this ⊢;omega
    have hC9:=fun (u:World)=>(show Calls Try.prog 90 #[.string (txB S),.int .i64 ((j:Int)+1),.int .i64 1] u fun e w'=>RRs S (rdP jS n 2 r5) u e w' from by have h:=hC 2 S (j+1) u (by omega) (by omega) (by rw[hdr];have:=Hn.out;unfold fuP at this ⊢;omega) hl Hht.out (by omega);rw[hdr] at h;exact h)
    obtain⟨x9,hx9⟩:=eJ (rdP jS n 2 r5);rw[hx9] at hm9 hsf9 hyy;rw[hx9] at hC9;obtain⟨e9,q9,fl9⟩:=x9;have hel9:e9.length≤1000:=by have:=hm9.2.1;simp only at this;omega
    have HC9:=qh hC9;obtain⟨e5,he5⟩:=eJ (es++e9++[(5,0)]);simp only at hyy;rw[show opK 1=5 from rfl,he5] at hyy;have hlen5:e5.length=es.length+e9.length+1:=by rw[← he5];simp;omega
    have hcel5:e5.flatMap Zaa=(es.flatMap Zaa++e9.flatMap Zaa)++[.int .i64 5,.int .i64 0]:=by rw[← he5];simp[Zaa]
    have Hhm9:=qh hm9;have Hsf9:=qh hsf9;have Hhme:=qh hme;have Hhsuf:=qh hsuf;have Hhdr:=qh hdr;clear hdr;have Hhlen5:=qh hlen5;clear hlen5;have Hhcel5:=qh hcel5;clear hcel5;have Hhx9:=qh hx9;clear hx9;have Hhe5:=qh he5;clear he5;have Hhyy:=qh hyy;clear hyy;clear hC9 hm9 hme hsf9 hsuf
    go_wp2_with (first
     | (go_at_call 90;refine(HC9.out _).mono ?_;rintro e w2 ⟨a9,c9,rfl,hS9⟩;have HS9:=qh (show St w w2 [Ent.row 39 2 (.slice a es.length c) es.length (es.flatMap Zaa),Ent.row 39 2 (.slice a9 e9.length c9) e9.length (e9.flatMap Zaa)] from HS4.out.cat hS9);clear hS9)
     | (at_builtin;refine Zae _ rfl _ _ _ rfl _ 39 j0 PZ 2 16 Try.underlying23 hj hy0 hy1 hy2 rfl (by omega) _ es.length _ rfl (HS9.out.row 0 rfl) _ e9.length (e9.flatMap Zaa) rfl ((Zaf (HS9.out.row 1 rfl)).sl (by omega) |>.mono (Nat.zero_le _)) Zcc (by unfold maxLen;omega) (by omega) HS9.out.size ?_;intro a6 c6 w6 hown6 hgrow6 hat6;have hS6:=(HS9.out.appS 0 rfl hown6 hgrow6 hat6).pick [0] (by decide);have hS7:St w _ [Ent.row 39 2 (.slice a6 (es.length+e9.length) c6) (es.length+e9.length) (es.flatMap Zaa++e9.flatMap Zaa),Ent.row 39 2 (.slice (some ⟨w6.heap.size,0,none⟩) 1 1) 1 [.int .i64 5,.int .i64 0]]:=(hS6.alloc w6.heap.size rfl #[.int .i64 5,.int .i64 0] 39).boxrow 1 1 2 [.int .i64 5,.int .i64 0] rfl rfl (by unfold maxLen;omega);have HS7:=qh hS7;clear hown6 hgrow6 hat6 hS6 hS7)
     | (at_builtin;refine Zae _ rfl _ _ _ rfl _ 39 j0 PZ 2 16 Try.underlying23 hj hy0 hy1 hy2 rfl (by omega) _ (es.length+e9.length) _ rfl (HS7.out.row 0 rfl) _ 1 [.int .i64 5,.int .i64 0] rfl ((Zaf (HS7.out.row 1 rfl)).sl (by omega) |>.mono (Nat.zero_le _)) (by intro u hu;simp at hu;rcases hu with rfl|rfl<;>rfl) (by unfold maxLen;omega) (by omega) HS7.out.size ?_;intro a7 c7 w7 hown7 hgrow7 hat7;have HS8:=qh ((HS7.out.appS 0 rfl hown7 hgrow7 hat7).pick [0] (by decide));clear hown7 hgrow7 hat7))
    have hm9:=Hhm9.out;have hme:=Hhme.out;have hlen5:=Hhlen5.out;have hyy:=Hhyy.out;have HS10:St w w7 [Ent.row 39 2 (.slice a7 e5.length c7) e5.length (e5.flatMap Zaa)]:=by rw[hlen5,Hhcel5.out];exact HS8.out
    rw[← hlen5];cases fl9 with
    | true =>
     have hy2:y=(e5,q9,true):=by rw[← hyy];cases kk<;>rfl
     go_roundw
     case rel=>exact .inl ⟨a7,c7,e5,rfl,rfl,by rw[hy2],by rw[hy2],HS10⟩
     case measure =>show enM S (.int .i64 (-1))<enM S (.int .i64 (j:Int));rw[Zeh,Za4];omega
    | false =>
     obtain⟨-,-,b3⟩:=hm9;obtain⟨b4,b5⟩:=b3 rfl;obtain⟨a1,a2,a3⟩:=hme;obtain⟨a4,a5⟩:=a3 rfl;simp only[List.length_cons] at b4 b5 a1 a2 a4 a5;have hmeas:meas r.length (e5,q9,false):=⟨by simp only;omega,by simp only;omega,fun _=>by simp only;omega⟩;have hq9l:=Hsf9.out.length_le;go_roundw
     case rel=>exact .inr ⟨a7,c7,e5,q9,kk,rfl,rfl,⟨hyy,by simp only[List.length_cons] at hkk;omega⟩,Hsf9.out,hmeas,HS10⟩
     case measure =>show enM S (.int .i64 ((S.length-q9.length:Nat):Int))<enM S (.int .i64 (j:Int));rw[Za4,Za4];omega
   have hyy2:y=(es,d::r5,false):=by
    rw[← hyy];unfold Zan;rw[if_neg (by simp)];have hc:Zb0 jS 1 (d::r5)=none:=by show(if 1=1∧d=124∨1=2∧d=38 then some r5 else if 1=3∧jS d=true then some (d::r5) else none)=none;rw[if_neg (by omega),if_neg (by omega)]
    rw[hc]
   have n4:((d:Int)=124)=False:=by simp;omega
   have Hhyy:=qh hyy2;clear hyy hyy2 hme hsuf;go_wp2;refine bodyPost_ret (v:=.tuple #[.slice a es.length c,.int .i64 (j:Int)]) (by simp[results,Try.results90,go_sem]) rfl ?_;rw[Hhyy.out];exact⟨a,c,by rw[show endI S (es,d::r5,false)=(j:Int) by unfold endI;simp only[Bool.false_eq_true,if_false];rw[Hhjj.out]],HS4.out⟩
theorem Zhb (n:Nat) (hC:Zek n) (S:List Nat) (i:Nat) (w:World) (hn:fuP 2 (S.drop i)≤n+1) (hl:S.length≤120) (ht:isT S) (hi:i≤S.length) :
  Calls Try.prog 90 #[.string (txB S),.int .i64 (i:Int),.int .i64 1] w fun e w'=>RRs S (rdP jS (n+1) 2 (S.drop i)) w e w':=by
 have hs:=Zah S;have Hht:=qh ht;obtain⟨j0,hj,hy0,hy1,hy2⟩:=info_parts Try.infoPart;obtain⟨r,hr⟩:=eJ (S.drop i);have hrs:r <:+ S:=by rw[← hr];exact List.drop_suffix _ _
 have hrl:r.length≤120:=by have:=hrs.length_le;omega
 rw[hr] at hn ⊢;have hrd:rdP jS (n+1) 2 r=Zan (rdP jS n 3) jS 2 n (rdP jS n 3 r).1 (rdP jS n 3 r).2.1 (rdP jS n 3 r).2.2:=rfl;rw[hrd];have hm:=Zbk jS n 3 r;have hsf:=(ZbA jS n 3 r).trans hrs;have hC1:=hC 3 S i w (by omega) (by omega) (by rw[hr];unfold fuP at hn ⊢;omega) hl ht hi;rw[hr] at hC1;obtain⟨x,hx⟩:=eJ (rdP jS n 3 r);rw[hx] at hC1 hm hsf ⊢;obtain⟨es0,q0,fl0⟩:=x;obtain⟨y,hy⟩:=eJ (Zan (rdP jS n 3) jS 2 n es0 q0 fl0);have hyy0:Zan (rdP jS n 3) jS 2 n (es0,q0,fl0).1 (es0,q0,fl0).2.1 (es0,q0,fl0).2.2=y:=hy;rw[hyy0];have HC1:=qh (show Calls Try.prog 90 #[.string (txB S),.int .i64 (i:Int),.int .i64 2] w fun e w'=>RRs S (es0,q0,fl0) w e w' from hC1);have Hhm:=qh hm;have Hsf:=qh hsf;have Hn:=qh hn;replace hrd:=qh hrd;have Hhx:=qh hx;clear hx;have Hhyy0:=qh hyy0;clear hyy0;have Hhy:=qh hy;clear hy;replace hr:=qh hr;have Hhrs:=qh hrs;clear hrs;clear hC1 hm hsf hn hi
 go_enter Try.func90, Try.ntmps90
 go_wp2_with (go_at_call 90;refine(HC1.out).mono ?_;rintro e w1 ⟨a1,c1,rfl,hS1⟩;replace hS1:=qh hS1)
 go_loopw [12,13] (fun ve vi wr=>(∃ (a:Option Addr) (c:Nat) (es:List (Int × Int)),ve = .slice a es.length c∧vi = .int .i64 (-1)∧y.1=es∧y.2.2=true∧St w wr [Ent.row 39 2 (.slice a es.length c) es.length (es.flatMap Zaa)]) ∨
   (∃ (a:Option Addr) (c:Nat) (es:List (Int × Int)) (r':List Nat) (kk:Nat),ve = .slice a es.length c∧vi = .int .i64 ((S.length-r'.length:Nat):Int)∧(Zan (rdP jS n 3) jS 2 kk es r' false=y∧r'.length<kk)∧r' <:+ S∧meas r.length (es,r',false)∧St w wr [Ent.row 39 2 (.slice a es.length c) es.length (es.flatMap Zaa)])) (fun _ vi _=>enM S vi)
 case atStart =>
  cases fl0 with
  | true =>
   have hy2:y=(es0,q0,true):=by rw[← Hhy.out];cases n<;>rfl
   exact .inl ⟨a1,c1,es0,rfl,rfl,by rw[hy2],by rw[hy2],hS1.out⟩
  | false =>obtain⟨m1,m2,m3⟩:=Hhm.out;obtain⟨m4,m5⟩:=m3 rfl;simp only at m1 m2 m4 m5;exact .inr ⟨a1,c1,es0,q0,n,rfl,rfl,⟨Hhy.out,by have:=Hn.out;unfold fuP at this;omega⟩,Hsf.out,⟨m1,m2,fun _=>⟨m4,m5⟩⟩,hS1.out⟩
 case round =>
  rcases hrel with⟨a,c,es,rfl,rfl,hy1,hy2,hS⟩|⟨a,c,es,r',k1,rfl,rfl,⟨hyy,hkk⟩,hsuf,hme,hS⟩
  ·have HS4:=qh hS;clear hS;go_wp2;subst hy1;refine bodyPost_ret (v:=.tuple #[.slice a y.1.length c,.int .i64 (-1)]) (by simp[results,Try.results90,go_sem]) rfl ?_;exact⟨a,c,by rw[show endI S y = -1 by unfold endI;rw[if_pos hy2]],HS4.out⟩
  obtain⟨kk,rfl⟩:∃ kk,k1=kk+1:=⟨k1-1,by omega⟩;cases r' with
  | nil =>
   have hyy2:y=(es,[],false):=hyy.symm;have Hhyy:=qh hyy2;have HS4:=qh hS;have hle:(S.length:Int)≤((S.length-0:Nat):Int):=by omega
   clear hyy hyy2 hme hsuf;clear hS;simp only[List.length_nil,Nat.sub_zero];go_wp2;refine bodyPost_ret (v:=.tuple #[.slice a es.length c,.int .i64 (S.length:Int)]) (by simp[results,Try.results90,go_sem]) rfl ?_;rw[Hhyy.out];exact⟨a,c,rfl,HS4.out⟩
  | cons d r5 =>
   have HS4:=qh hS;obtain⟨hq1,hq2⟩:=ZdQ hsuf;obtain⟨hj1,hjc,hjd,hjl⟩:=ZaR hq1;obtain⟨j,hjj⟩:=eJ (S.length-(d::r5).length);rw[hjj] at hj1 hjc hjd hjl;rw[hjj];have hjI:(j:Int)<(S.length:Int):=by omega
   have hj0:(0:Int)≤(j:Int):=by omega
   have hw2:IntKind.i64.wrap ((j:Int)+1)=(j:Int)+1:=IntWalk.i64_in _ (by omega);have hd256:d<256:=by rw[← hjc];exact Hht.out _ (ZaE hj1)
   have hjx:=fun u=>Zat (l:=S) (i:=j) hj1 Hht.out u
   rw[hjc] at hjx;have hel:es.length≤1000:=by have:=hme.2.1;simp only at this;omega
   have hjl2:S.length=j+1+r5.length:=hjl;have Hhjj:=qh hjj;clear hjj;have Hhjc:=qh hjc;clear hjc;have Hhjl:=qh hjl;clear hjl;have Hhq1:=qh hq1;clear hq1;clear hS;by_cases hds:d=38
   ·subst hds;have hyy:Zan (rdP jS n 3) jS 2 kk (es++(rdP jS n 3 r5).1++[(opK 2,0)]) (rdP jS n 3 r5).2.1 (rdP jS n 3 r5).2.2=y:=hyy;have hdr:S.drop (j+1)=r5:=hjd;have hm9:=Zbk jS n 3 r5;have hsf9:=(ZbA jS n 3 r5).trans (by rw[← hdr];exact List.drop_suffix _ _:r5 <:+ S);have hlr:(r5).length≤r.length:=by have:=hme.1;simp at this ⊢;omega
    have hC9:=fun (u:World)=>(show Calls Try.prog 90 #[.string (txB S),.int .i64 ((j:Int)+1),.int .i64 2] u fun e w'=>RRs S (rdP jS n 3 r5) u e w' from by have h:=hC 3 S (j+1) u (by omega) (by omega) (by rw[hdr];have:=Hn.out;unfold fuP at this ⊢;omega) hl Hht.out (by omega);rw[hdr] at h;exact h)
    obtain⟨x9,hx9⟩:=eJ (rdP jS n 3 r5);rw[hx9] at hm9 hsf9 hyy;rw[hx9] at hC9;obtain⟨e9,q9,fl9⟩:=x9;have hel9:e9.length≤1000:=by have:=hm9.2.1;simp only at this;omega
    have HC9:=qh hC9;obtain⟨e5,he5⟩:=eJ (es++e9++[(6,0)]);simp only at hyy;rw[show opK 2=6 from rfl,he5] at hyy;have hlen5:e5.length=es.length+e9.length+1:=by rw[← he5];simp;omega
    have hcel5:e5.flatMap Zaa=(es.flatMap Zaa++e9.flatMap Zaa)++[.int .i64 6,.int .i64 0]:=by rw[← he5];simp[Zaa]
    have Hhm9:=qh hm9;have Hsf9:=qh hsf9;have Hhme:=qh hme;have Hhsuf:=qh hsuf;have Hhdr:=qh hdr;clear hdr;have Hhlen5:=qh hlen5;clear hlen5;have Hhcel5:=qh hcel5;clear hcel5;have Hhx9:=qh hx9;clear hx9;have Hhe5:=qh he5;clear he5;have Hhyy:=qh hyy;clear hyy;clear hC9 hm9 hme hsf9 hsuf
    go_wp2_with (first
     | (go_at_call 90;refine(HC9.out _).mono ?_;rintro e w2 ⟨a9,c9,rfl,hS9⟩;have HS9:=qh (show St w w2 [Ent.row 39 2 (.slice a es.length c) es.length (es.flatMap Zaa),Ent.row 39 2 (.slice a9 e9.length c9) e9.length (e9.flatMap Zaa)] from HS4.out.cat hS9);clear hS9)
     | (at_builtin;refine Zae _ rfl _ _ _ rfl _ 39 j0 PZ 2 16 Try.underlying23 hj hy0 hy1 hy2 rfl (by omega) _ es.length _ rfl (HS9.out.row 0 rfl) _ e9.length (e9.flatMap Zaa) rfl ((Zaf (HS9.out.row 1 rfl)).sl (by omega) |>.mono (Nat.zero_le _)) Zcc (by unfold maxLen;omega) (by omega) HS9.out.size ?_;intro a6 c6 w6 hown6 hgrow6 hat6;have hS6:=(HS9.out.appS 0 rfl hown6 hgrow6 hat6).pick [0] (by decide);have hS7:St w _ [Ent.row 39 2 (.slice a6 (es.length+e9.length) c6) (es.length+e9.length) (es.flatMap Zaa++e9.flatMap Zaa),Ent.row 39 2 (.slice (some ⟨w6.heap.size,0,none⟩) 1 1) 1 [.int .i64 6,.int .i64 0]]:=(hS6.alloc w6.heap.size rfl #[.int .i64 6,.int .i64 0] 39).boxrow 1 1 2 [.int .i64 6,.int .i64 0] rfl rfl (by unfold maxLen;omega);have HS7:=qh hS7;clear hown6 hgrow6 hat6 hS6 hS7)
     | (at_builtin;refine Zae _ rfl _ _ _ rfl _ 39 j0 PZ 2 16 Try.underlying23 hj hy0 hy1 hy2 rfl (by omega) _ (es.length+e9.length) _ rfl (HS7.out.row 0 rfl) _ 1 [.int .i64 6,.int .i64 0] rfl ((Zaf (HS7.out.row 1 rfl)).sl (by omega) |>.mono (Nat.zero_le _)) (by intro u hu;simp at hu;rcases hu with rfl|rfl<;>rfl) (by unfold maxLen;omega) (by omega) HS7.out.size ?_;intro a7 c7 w7 hown7 hgrow7 hat7;have HS8:=qh ((HS7.out.appS 0 rfl hown7 hgrow7 hat7).pick [0] (by decide));clear hown7 hgrow7 hat7))
    have hm9:=Hhm9.out;have hme:=Hhme.out;have hlen5:=Hhlen5.out;have hyy:=Hhyy.out;have HS10:St w w7 [Ent.row 39 2 (.slice a7 e5.length c7) e5.length (e5.flatMap Zaa)]:=by rw[hlen5,Hhcel5.out];exact HS8.out
    rw[← hlen5];cases fl9 with
    | true =>
     have hy2:y=(e5,q9,true):=by rw[← hyy];cases kk<;>rfl
     go_roundw
     case rel=>exact .inl ⟨a7,c7,e5,rfl,rfl,by rw[hy2],by rw[hy2],HS10⟩
     case measure =>show enM S (.int .i64 (-1))<enM S (.int .i64 (j:Int));rw[Zeh,Za4];omega
    | false =>
     obtain⟨-,-,b3⟩:=hm9;obtain⟨b4,b5⟩:=b3 rfl;obtain⟨a1,a2,a3⟩:=hme;obtain⟨a4,a5⟩:=a3 rfl;simp only[List.length_cons] at b4 b5 a1 a2 a4 a5;have hmeas:meas r.length (e5,q9,false):=⟨by simp only;omega,by simp only;omega,fun _=>by simp only;omega⟩;have hq9l:=Hsf9.out.length_le;go_roundw
     case rel=>exact .inr ⟨a7,c7,e5,q9,kk,rfl,rfl,⟨hyy,by simp only[List.length_cons] at hkk;omega⟩,Hsf9.out,hmeas,HS10⟩
     case measure =>show enM S (.int .i64 ((S.length-q9.length:Nat):Int))<enM S (.int .i64 (j:Int));rw[Za4,Za4];omega
   have hyy2:y=(es,d::r5,false):=by
    rw[← hyy];unfold Zan;rw[if_neg (by simp)];have hc:Zb0 jS 2 (d::r5)=none:=by show(if 2=1∧d=124∨2=2∧d=38 then some r5 else if 2=3∧jS d=true then some (d::r5) else none)=none;rw[if_neg (by omega),if_neg (by omega)]
    rw[hc]
   have n4:((d:Int)=38)=False:=by simp;omega
   have Hhyy:=qh hyy2;clear hyy hyy2 hme hsuf;go_wp2;refine bodyPost_ret (v:=.tuple #[.slice a es.length c,.int .i64 (j:Int)]) (by simp[results,Try.results90,go_sem]) rfl ?_;rw[Hhyy.out];exact⟨a,c,by rw[show endI S (es,d::r5,false)=(j:Int) by unfold endI;simp only[Bool.false_eq_true,if_false];rw[Hhjj.out]],HS4.out⟩
theorem Zha (n:Nat) (hC:Zek n) (S:List Nat) (i:Nat) (w:World) (hn:fuP 3 (S.drop i)≤n+1) (hl:S.length≤120) (ht:isT S) (hi:i≤S.length) :
  Calls Try.prog 90 #[.string (txB S),.int .i64 (i:Int),.int .i64 2] w fun e w'=>RRs S (rdP jS (n+1) 3 (S.drop i)) w e w':=by
 have hs:=Zah S;have Hht:=qh ht;obtain⟨j0,hj,hy0,hy1,hy2⟩:=info_parts Try.infoPart;obtain⟨r,hr⟩:=eJ (S.drop i);have hrs:r <:+ S:=by rw[← hr];exact List.drop_suffix _ _
 have hrl:r.length≤120:=by have:=hrs.length_le;omega
 rw[hr] at hn ⊢;have hrd:rdP jS (n+1) 3 r=Zan (rdP jS n 4) jS 3 n (rdP jS n 4 r).1 (rdP jS n 4 r).2.1 (rdP jS n 4 r).2.2:=rfl;rw[hrd];have hm:=Zbk jS n 4 r;have hsf:=(ZbA jS n 4 r).trans hrs;have hC1:=hC 4 S i w (by omega) (by omega) (by rw[hr];unfold fuP at hn ⊢;omega) hl ht hi;rw[hr] at hC1;obtain⟨x,hx⟩:=eJ (rdP jS n 4 r);rw[hx] at hC1 hm hsf ⊢;obtain⟨es0,q0,fl0⟩:=x;obtain⟨y,hy⟩:=eJ (Zan (rdP jS n 4) jS 3 n es0 q0 fl0);have hyy0:Zan (rdP jS n 4) jS 3 n (es0,q0,fl0).1 (es0,q0,fl0).2.1 (es0,q0,fl0).2.2=y:=hy;rw[hyy0];have HC1:=qh (show Calls Try.prog 90 #[.string (txB S),.int .i64 (i:Int),.int .i64 3] w fun e w'=>RRs S (es0,q0,fl0) w e w' from hC1);have Hhm:=qh hm;have Hsf:=qh hsf;have Hn:=qh hn;replace hrd:=qh hrd;have Hhx:=qh hx;clear hx;have Hhyy0:=qh hyy0;clear hyy0;have Hhy:=qh hy;clear hy;replace hr:=qh hr;have Hhrs:=qh hrs;clear hrs;clear hC1 hm hsf hn hi
 go_enter Try.func90, Try.ntmps90
 go_wp2_with (go_at_call 90;refine(HC1.out).mono ?_;rintro e w1 ⟨a1,c1,rfl,hS1⟩;replace hS1:=qh hS1)
 go_loopw [12,13] (fun ve vi wr=>(∃ (a:Option Addr) (c:Nat) (es:List (Int × Int)),ve = .slice a es.length c∧vi = .int .i64 (-1)∧y.1=es∧y.2.2=true∧St w wr [Ent.row 39 2 (.slice a es.length c) es.length (es.flatMap Zaa)]) ∨
   (∃ (a:Option Addr) (c:Nat) (es:List (Int × Int)) (r':List Nat) (kk:Nat),ve = .slice a es.length c∧vi = .int .i64 ((S.length-r'.length:Nat):Int)∧(Zan (rdP jS n 4) jS 3 kk es r' false=y∧r'.length<kk)∧r' <:+ S∧meas r.length (es,r',false)∧St w wr [Ent.row 39 2 (.slice a es.length c) es.length (es.flatMap Zaa)])) (fun _ vi _=>enM S vi)
 case atStart =>
  cases fl0 with
  | true =>
   have hy2:y=(es0,q0,true):=by rw[← Hhy.out];cases n<;>rfl
   exact .inl ⟨a1,c1,es0,rfl,rfl,by rw[hy2],by rw[hy2],hS1.out⟩
  | false =>obtain⟨m1,m2,m3⟩:=Hhm.out;obtain⟨m4,m5⟩:=m3 rfl;simp only at m1 m2 m4 m5;exact .inr ⟨a1,c1,es0,q0,n,rfl,rfl,⟨Hhy.out,by have:=Hn.out;unfold fuP at this;omega⟩,Hsf.out,⟨m1,m2,fun _=>⟨m4,m5⟩⟩,hS1.out⟩
 case round =>
  rcases hrel with⟨a,c,es,rfl,rfl,hy1,hy2,hS⟩|⟨a,c,es,r',k1,rfl,rfl,⟨hyy,hkk⟩,hsuf,hme,hS⟩
  ·have HS4:=qh hS;clear hS;go_wp2;subst hy1;refine bodyPost_ret (v:=.tuple #[.slice a y.1.length c,.int .i64 (-1)]) (by simp[results,Try.results90,go_sem]) rfl ?_;exact⟨a,c,by rw[show endI S y = -1 by unfold endI;rw[if_pos hy2]],HS4.out⟩
  obtain⟨kk,rfl⟩:∃ kk,k1=kk+1:=⟨k1-1,by omega⟩;cases r' with
  | nil =>
   have hyy2:y=(es,[],false):=hyy.symm;have Hhyy:=qh hyy2;have HS4:=qh hS;have hle:(S.length:Int)≤((S.length-0:Nat):Int):=by omega
   clear hyy hyy2 hme hsuf;clear hS;simp only[List.length_nil,Nat.sub_zero];go_wp2;refine bodyPost_ret (v:=.tuple #[.slice a es.length c,.int .i64 (S.length:Int)]) (by simp[results,Try.results90,go_sem]) rfl ?_;rw[Hhyy.out];exact⟨a,c,rfl,HS4.out⟩
  | cons d r5 =>
   have HS4:=qh hS;obtain⟨hq1,hq2⟩:=ZdQ hsuf;obtain⟨hj1,hjc,hjd,hjl⟩:=ZaR hq1;obtain⟨j,hjj⟩:=eJ (S.length-(d::r5).length);rw[hjj] at hj1 hjc hjd hjl;rw[hjj];have hjI:(j:Int)<(S.length:Int):=by omega
   have hj0:(0:Int)≤(j:Int):=by omega
   have hw2:IntKind.i64.wrap ((j:Int)+1)=(j:Int)+1:=IntWalk.i64_in _ (by omega);have hd256:d<256:=by rw[← hjc];exact Hht.out _ (ZaE hj1)
   have hjx:=fun u=>Zat (l:=S) (i:=j) hj1 Hht.out u
   rw[hjc] at hjx;have hel:es.length≤1000:=by have:=hme.2.1;simp only at this;omega
   have hjl2:S.length=j+1+r5.length:=hjl;have Hhjj:=qh hjj;clear hjj;have Hhjc:=qh hjc;clear hjc;have Hhjl:=qh hjl;clear hjl;have Hhq1:=qh hq1;clear hq1;clear hS;have Hhq1x:=qh (show S.drop j=d::r5 from by have:=Hhq1.out;rw[Hhjj.out] at this;exact this);by_cases hds:d=124∨d=38∨d=41∨d=42
   ·have hyy2:y=(es,d::r5,false):=by
     rw[← hyy];unfold Zan;rw[if_neg (by simp)];have hc:Zb0 jS 3 (d::r5)=none:=by show(if 3=1∧d=124∨3=2∧d=38 then some r5 else if 3=3∧jS d=true then some (d::r5) else none)=none;rw[if_neg (by omega),if_neg];rintro⟨-,h⟩;rcases hds with rfl|rfl|rfl|rfl<;>simp[jS] at h
     rw[hc]
    have Hhyy:=qh hyy2;clear hyy hyy2 hme hsuf;obtain rfl|hds:=hds
    ·go_wp2;refine bodyPost_ret (v:=.tuple #[.slice a es.length c,.int .i64 (j:Int)]) (by simp[results,Try.results90,go_sem]) rfl ?_;rw[Hhyy.out];exact⟨a,c,by rw[show endI S (es,124::r5,false)=(j:Int) by unfold endI;simp only[Bool.false_eq_true,if_false];rw[Hhjj.out]],HS4.out⟩
    obtain rfl|hds:=hds
    ·go_wp2;refine bodyPost_ret (v:=.tuple #[.slice a es.length c,.int .i64 (j:Int)]) (by simp[results,Try.results90,go_sem]) rfl ?_;rw[Hhyy.out];exact⟨a,c,by rw[show endI S (es,38::r5,false)=(j:Int) by unfold endI;simp only[Bool.false_eq_true,if_false];rw[Hhjj.out]],HS4.out⟩
    obtain rfl|rfl:=hds
    ·go_wp2;refine bodyPost_ret (v:=.tuple #[.slice a es.length c,.int .i64 (j:Int)]) (by simp[results,Try.results90,go_sem]) rfl ?_;rw[Hhyy.out];exact⟨a,c,by rw[show endI S (es,41::r5,false)=(j:Int) by unfold endI;simp only[Bool.false_eq_true,if_false];rw[Hhjj.out]],HS4.out⟩
    go_wp2;refine bodyPost_ret (v:=.tuple #[.slice a es.length c,.int .i64 (j:Int)]) (by simp[results,Try.results90,go_sem]) rfl ?_;rw[Hhyy.out];exact⟨a,c,by rw[show endI S (es,42::r5,false)=(j:Int) by unfold endI;simp only[Bool.false_eq_true,if_false];rw[Hhjj.out]],HS4.out⟩
   have hj2:jS d=true:=by unfold jS;simp;omega
   have hyy:Zan (rdP jS n 4) jS 3 kk (es++(rdP jS n 4 (d::r5)).1++[(opK 3,0)]) (rdP jS n 4 (d::r5)).2.1 (rdP jS n 4 (d::r5)).2.2=y:=by
    rw[← hyy];have hc:Zb0 jS 3 (d::r5)=some (d::r5):=by show(if 3=1∧d=124∨3=2∧d=38 then some r5 else if 3=3∧jS d=true then some (d::r5) else none)=_;rw[if_neg (by omega),if_pos ⟨rfl,hj2⟩]
    conv=>rhs;unfold Zan
    rw[if_neg (by simp),hc]
   have Hhj2:=qh hj2;clear hj2;have m124:((d:Int) != 124)=true:=by simp;omega
   have m38:((d:Int) != 38)=true:=by simp;omega
   have m41:((d:Int) != 41)=true:=by simp;omega
   have m42:((d:Int) != 42)=true:=by simp;omega
   have hdr:S.drop (j)=(d::r5):=Hhq1x.out;have hm9:=Zbk jS n 4 (d::r5);have hsf9:=(ZbA jS n 4 (d::r5)).trans (by rw[← hdr];exact List.drop_suffix _ _:(d::r5) <:+ S);have hlr:((d::r5)).length≤r.length:=by have:=hme.1;simp at this ⊢;omega
   have hC9:=fun (u:World)=>(show Calls Try.prog 90 #[.string (txB S),.int .i64 (j:Int),.int .i64 3] u fun e w'=>RRs S (rdP jS n 4 (d::r5)) u e w' from by have h:=hC 4 S (j) u (by omega) (by omega) (by rw[hdr];have:=Hn.out;unfold fuP at this ⊢;omega) hl Hht.out (by omega);rw[hdr] at h;exact h)
   obtain⟨x9,hx9⟩:=eJ (rdP jS n 4 (d::r5));rw[hx9] at hm9 hsf9 hyy;rw[hx9] at hC9;obtain⟨e9,q9,fl9⟩:=x9;have hel9:e9.length≤1000:=by have:=hm9.2.1;simp only at this;omega
   have HC9:=qh hC9;obtain⟨e5,he5⟩:=eJ (es++e9++[(4,0)]);simp only at hyy;rw[show opK 3=4 from rfl,he5] at hyy;have hlen5:e5.length=es.length+e9.length+1:=by rw[← he5];simp;omega
   have hcel5:e5.flatMap Zaa=(es.flatMap Zaa++e9.flatMap Zaa)++[.int .i64 4,.int .i64 0]:=by rw[← he5];simp[Zaa]
   have Hhm9:=qh hm9;have Hsf9:=qh hsf9;have Hhme:=qh hme;have Hhsuf:=qh hsuf;have Hhdr:=qh hdr;clear hdr;have Hhlen5:=qh hlen5;clear hlen5;have Hhcel5:=qh hcel5;clear hcel5;have Hhx9:=qh hx9;clear hx9;have Hhe5:=qh he5;clear he5;have Hhyy:=qh hyy;clear hyy;clear hC9 hm9 hme hsf9 hsuf
   go_wp2_with (first
    | (go_at_call 90;refine(HC9.out _).mono ?_;rintro e w2 ⟨a9,c9,rfl,hS9⟩;have HS9:=qh (show St w w2 [Ent.row 39 2 (.slice a es.length c) es.length (es.flatMap Zaa),Ent.row 39 2 (.slice a9 e9.length c9) e9.length (e9.flatMap Zaa)] from HS4.out.cat hS9);clear hS9)
    | (at_builtin;refine Zae _ rfl _ _ _ rfl _ 39 j0 PZ 2 16 Try.underlying23 hj hy0 hy1 hy2 rfl (by omega) _ es.length _ rfl (HS9.out.row 0 rfl) _ e9.length (e9.flatMap Zaa) rfl ((Zaf (HS9.out.row 1 rfl)).sl (by omega) |>.mono (Nat.zero_le _)) Zcc (by unfold maxLen;omega) (by omega) HS9.out.size ?_;intro a6 c6 w6 hown6 hgrow6 hat6;have hS6:=(HS9.out.appS 0 rfl hown6 hgrow6 hat6).pick [0] (by decide);have hS7:St w _ [Ent.row 39 2 (.slice a6 (es.length+e9.length) c6) (es.length+e9.length) (es.flatMap Zaa++e9.flatMap Zaa),Ent.row 39 2 (.slice (some ⟨w6.heap.size,0,none⟩) 1 1) 1 [.int .i64 4,.int .i64 0]]:=(hS6.alloc w6.heap.size rfl #[.int .i64 4,.int .i64 0] 39).boxrow 1 1 2 [.int .i64 4,.int .i64 0] rfl rfl (by unfold maxLen;omega);have HS7:=qh hS7;clear hown6 hgrow6 hat6 hS6 hS7)
    | (at_builtin;refine Zae _ rfl _ _ _ rfl _ 39 j0 PZ 2 16 Try.underlying23 hj hy0 hy1 hy2 rfl (by omega) _ (es.length+e9.length) _ rfl (HS7.out.row 0 rfl) _ 1 [.int .i64 4,.int .i64 0] rfl ((Zaf (HS7.out.row 1 rfl)).sl (by omega) |>.mono (Nat.zero_le _)) (by intro u hu;simp at hu;rcases hu with rfl|rfl<;>rfl) (by unfold maxLen;omega) (by omega) HS7.out.size ?_;intro a7 c7 w7 hown7 hgrow7 hat7;have HS8:=qh ((HS7.out.appS 0 rfl hown7 hgrow7 hat7).pick [0] (by decide));clear hown7 hgrow7 hat7))
   have hm9:=Hhm9.out;have hme:=Hhme.out;have hlen5:=Hhlen5.out;have hyy:=Hhyy.out;have HS10:St w w7 [Ent.row 39 2 (.slice a7 e5.length c7) e5.length (e5.flatMap Zaa)]:=by rw[hlen5,Hhcel5.out];exact HS8.out
   rw[← hlen5];cases fl9 with
   | true =>
    have hy2:y=(e5,q9,true):=by rw[← hyy];cases kk<;>rfl
    go_roundw
    case rel=>exact .inl ⟨a7,c7,e5,rfl,rfl,by rw[hy2],by rw[hy2],HS10⟩
    case measure =>show enM S (.int .i64 (-1))<enM S (.int .i64 (j:Int));rw[Zeh,Za4];omega
   | false =>
    obtain⟨-,-,b3⟩:=hm9;obtain⟨b4,b5⟩:=b3 rfl;obtain⟨a1,a2,a3⟩:=hme;obtain⟨a4,a5⟩:=a3 rfl;simp only[List.length_cons] at b4 b5 a1 a2 a4 a5;have hmeas:meas r.length (e5,q9,false):=⟨by simp only;omega,by simp only;omega,fun _=>by simp only;omega⟩;have hq9l:=Hsf9.out.length_le;go_roundw
    case rel=>exact .inr ⟨a7,c7,e5,q9,kk,rfl,rfl,⟨hyy,by simp only[List.length_cons] at hkk;omega⟩,Hsf9.out,hmeas,HS10⟩
    case measure =>show enM S (.int .i64 ((S.length-q9.length:Nat):Int))<enM S (.int .i64 (j:Int));rw[Za4,Za4];omega
theorem Zg9 (n:Nat) (hC:Zek n) (S:List Nat) (i:Nat) (w:World) (hn:fuP 4 (S.drop i)≤n+1) (hl:S.length≤120) (ht:isT S) (hi:i≤S.length) :
  Calls Try.prog 90 #[.string (txB S),.int .i64 (i:Int),.int .i64 3] w fun e w'=>RRs S (rdP jS (n+1) 4 (S.drop i)) w e w':=by
 have hs:=Zah S;have Hht:=qh ht;obtain⟨j0,hj,hy0,hy1,hy2⟩:=info_parts Try.infoPart;obtain⟨r,hr⟩:=eJ (S.drop i);have hrs:r <:+ S:=by rw[← hr];exact List.drop_suffix _ _
 have hrl:r.length≤120:=by have:=hrs.length_le;omega
 rw[hr] at hn ⊢;have HC:=qh hC
 have hgo:rdP jS (n+1) 4 r=rdP jS n 5 r→(r=[]∨∃ c r1,r=c::r1∧c≠33)→Calls Try.prog 90 #[.string (txB S),.int .i64 (i:Int),.int .i64 3] w fun e w'=>RRs S (rdP jS (n+1) 4 r) w e w':=by
  intro hrd hcase;rw[hrd];have hC1:=hC 5 S i w (by omega) (by omega) (by rw[hr];unfold fuP at hn ⊢;omega) hl ht hi;rw[hr] at hC1;have hsf:=(ZbA jS n 5 r).trans hrs;obtain⟨x,hx⟩:=eJ (rdP jS n 5 r);rw[hx] at hC1 hsf ⊢;obtain⟨es,q,fl⟩:=x;have HC1:=qh (show Calls Try.prog 90 #[.string (txB S),.int .i64 (i:Int),.int .i64 4] w fun e w'=>RRs S (es,q,fl) w e w' from hC1);have Hsf:=qh hsf;have Hhi:=qh hi
  have hcase2:i=S.length∨∃ c,i<S.length∧S.getD i 0=c∧c≠33:=by
   rcases hcase with h|⟨c,r1,h,hne⟩
   ·exact .inl (ZeC (hr.trans h) hi)
   obtain⟨q1,q2,-,-⟩:=ZaR (hr.trans h);exact .inr ⟨c,q1,q2,hne⟩
  have Hhrd:=qh hrd;clear hrd;have Hhx:=qh hx;clear hx;have Hhr:=qh hr;clear hr;replace hrs:=qh hrs;clear hC1 hsf hcase hn hi hC;have hloop:∀ (u:World) (a:Option Addr) (c:Nat),St w u [Ent.row 39 2 (.slice a es.length c) es.length (es.flatMap Zaa)]→RRs S (es,q,fl) w (.returned (.tuple #[.slice a es.length c,.int .i64 (endI S (es,q,fl))])) u:=fun u a c h=>⟨a,c,rfl,h⟩
  have Hloop:=qh hloop;clear hloop
  have hrest:∀ P:Prop,(∀ c,i<S.length→S.getD i 0=c→c≠33→P)→(i=S.length→P)→P:=by
   intro P h1 h2;rcases hcase2 with h|⟨c,q1,q2,q3⟩
   ·exact h2 h
   exact h1 c q1 q2 q3
  clear hcase2;refine hrest _ ?_ ?_
  ·intro c hi1 hc h33;have hiI:(i:Int)<(S.length:Int):=by omega
   have hc256:c<256:=by rw[← hc];exact ht _ (ZaE hi1)
   have hix:=fun u=>Zat (l:=S) (i:=i) hi1 Hht.out u
   rw[hc] at hix;have n33:((c:Int)=33)=False:=by simp;omega
   have Hhc:=qh hc;clear hc;clear hrest
   go_enter Try.func90, Try.ntmps90
   go_wp2_with (go_at_call 90;refine(HC1.out).mono ?_;rintro e w1 ⟨a1,c1,rfl,hS1⟩;replace hS1:=qh hS1)
   go_loopw [12,13] (fun ve vi wr=>∃ (a:Option Addr) (c:Nat),ve = .slice a es.length c∧vi = .int .i64 (endI S (es,q,fl))∧St w wr [Ent.row 39 2 (.slice a es.length c) es.length (es.flatMap Zaa)]) (fun _ _ _=>0)
   case atStart=>exact⟨a1,c1,rfl,rfl,hS1.out⟩
   case round =>
    obtain⟨a2,c2,rfl,rfl,hS⟩:=hrel;have HS2:=qh (Hloop.out _ _ _ hS);clear hS;cases fl with
    | true =>simp only[show endI S (es,q,true) = -1 from rfl];go_wp2;refine bodyPost_ret (v:=.tuple #[.slice a2 es.length c2,.int .i64 (-1)]) (by simp[results,Try.results90,go_sem]) rfl ?_;exact HS2.out
    | false =>
     obtain⟨j,hj⟩:=eJ (S.length-q.length);have he:endI S (es,q,false)=(j:Int):=by unfold endI;simp only[Bool.false_eq_true,if_false,hj]
     rw[he] at HS2;simp only[he];have hj0:(0:Int)≤(j:Int):=by omega
     by_cases hlt:j<S.length
     ·have hltI:(j:Int)<(S.length:Int):=by omega
      have Hhj:=qh hj;clear hj;have Hhe:=qh he;clear he;go_wp2;refine bodyPost_ret (v:=.tuple #[.slice a2 es.length c2,.int .i64 (j:Int)]) (by simp[results,Try.results90,go_sem]) rfl ?_;exact HS2.out
     have hltI:(S.length:Int)≤(j:Int):=by omega
     have Hhj:=qh hj;clear hj;have Hhe:=qh he;clear he;clear hlt;go_wp2;refine bodyPost_ret (v:=.tuple #[.slice a2 es.length c2,.int .i64 (j:Int)]) (by simp[results,Try.results90,go_sem]) rfl ?_;exact HS2.out
  intro hil;have hiI:(S.length:Int)≤(i:Int):=by omega
  have Hhil:=qh hil;clear hil;clear hrest
  go_enter Try.func90, Try.ntmps90
  go_wp2_with (go_at_call 90;refine(HC1.out).mono ?_;rintro e w1 ⟨a1,c1,rfl,hS1⟩;replace hS1:=qh hS1)
  go_loopw [12,13] (fun ve vi wr=>∃ (a:Option Addr) (c:Nat),ve = .slice a es.length c∧vi = .int .i64 (endI S (es,q,fl))∧St w wr [Ent.row 39 2 (.slice a es.length c) es.length (es.flatMap Zaa)]) (fun _ _ _=>0)
  case atStart=>exact⟨a1,c1,rfl,rfl,hS1.out⟩
  case round =>
   obtain⟨a2,c2,rfl,rfl,hS⟩:=hrel;have HS2:=qh (Hloop.out _ _ _ hS);clear hS;cases fl with
   | true =>simp only[show endI S (es,q,true) = -1 from rfl];go_wp2;refine bodyPost_ret (v:=.tuple #[.slice a2 es.length c2,.int .i64 (-1)]) (by simp[results,Try.results90,go_sem]) rfl ?_;exact HS2.out
   | false =>
    obtain⟨j,hj⟩:=eJ (S.length-q.length);have he:endI S (es,q,false)=(j:Int):=by unfold endI;simp only[Bool.false_eq_true,if_false,hj]
    rw[he] at HS2;simp only[he];have hj0:(0:Int)≤(j:Int):=by omega
    by_cases hlt:j<S.length
    ·have hltI:(j:Int)<(S.length:Int):=by omega
     have Hhj:=qh hj;clear hj;have Hhe:=qh he;clear he;go_wp2;refine bodyPost_ret (v:=.tuple #[.slice a2 es.length c2,.int .i64 (j:Int)]) (by simp[results,Try.results90,go_sem]) rfl ?_;exact HS2.out
    have hltI:(S.length:Int)≤(j:Int):=by omega
    have Hhj:=qh hj;clear hj;have Hhe:=qh he;clear he;clear hlt;go_wp2;refine bodyPost_ret (v:=.tuple #[.slice a2 es.length c2,.int .i64 (j:Int)]) (by simp[results,Try.results90,go_sem]) rfl ?_;exact HS2.out
 cases r with
 | nil=>exact hgo rfl (.inl rfl)
 | cons c r1 =>
  by_cases h33:c=33
  ·subst h33;have hrd:rdP jS (n+1) 4 (33::r1)=((rdP jS n 4 r1).1++[(7,0)],(rdP jS n 4 r1).2):=rfl;rw[hrd];clear hgo;obtain⟨hi1,hc,hd1,hlen⟩:=ZaR hr;have hm:=Zbk jS n 4 r1;have hC1:=hC 4 S (i+1) w (by omega) (by omega) (by rw[hd1];unfold fuP at hn ⊢;simp at hn;omega) hl ht (by omega);rw[hd1] at hC1;obtain⟨x,hx⟩:=eJ (rdP jS n 4 r1);rw[hx] at hC1 hm ⊢;obtain⟨es,q,fl⟩:=x;have hel:es.length≤1000:=by have:=hm.2.1;simp only at this;omega
   have HC1:=qh (show Calls Try.prog 90 #[.string (txB S),.int .i64 ((i:Int)+1),.int .i64 3] w fun e w'=>RRs S (es,q,fl) w e w' from hC1);have hiI:(i:Int)<(S.length:Int):=by omega
   have hw1:IntKind.i64.wrap ((i:Int)+1)=(i:Int)+1:=IntWalk.i64_in _ (by omega);have hix:=fun u=>Zat (l:=S) (i:=i) hi1 Hht.out u
   rw[hc] at hix;obtain⟨E,hE⟩:=eJ (endI S (es,q,fl));have Hhrd:=qh hrd;clear hrd;have Hhx:=qh hx;clear hx;have Hhr:=qh hr;clear hr;have Hhc:=qh hc;clear hc;have Hhd1:=qh hd1;clear hd1;have Hhlen:=qh hlen;clear hlen;replace hrs:=qh hrs;clear hC1 hm hn hC
   go_enter Try.func90, Try.ntmps90
   go_wp2_with (first
    | (go_at_call 90;refine(HC1.out).mono ?_;rintro e w1 ⟨a1,c1,rfl,hS1⟩;simp only[hE];have HS7:=qh (show St w _ [Ent.row 39 2 (.slice a1 es.length c1) es.length (es.flatMap Zaa),Ent.row 39 2 (.slice (some ⟨w1.heap.size,0,none⟩) 1 1) 1 [.int .i64 7,.int .i64 0]] from(hS1.alloc w1.heap.size rfl #[.int .i64 7,.int .i64 0] 39).boxrow 1 1 2 [.int .i64 7,.int .i64 0] rfl rfl (by unfold maxLen;omega));clear hS1)
    | (at_builtin;refine Zae _ rfl _ _ _ rfl _ 39 j0 PZ 2 16 Try.underlying23 hj hy0 hy1 hy2 rfl (by omega) _ es.length _ rfl (HS7.out.row 0 rfl) _ 1 [.int .i64 7,.int .i64 0] rfl ((Zaf (HS7.out.row 1 rfl)).sl (by omega) |>.mono (Nat.zero_le _)) (by intro u hu;simp at hu;rcases hu with rfl|rfl<;>rfl) (by unfold maxLen;omega) (by omega) HS7.out.size ?_;intro a7 c7 w7 hown7 hgrow7 hat7;have HS8:=qh ((HS7.out.appS 0 rfl hown7 hgrow7 hat7).pick [0] (by decide));clear hown7 hgrow7 hat7))
   refine bodyPost_ret (v:=.tuple #[.slice a7 (es.length+1) c7,.int .i64 E]) (by simp[results,Try.results90,go_sem]) rfl ?_;have hl5:(es++[((7:Int),(0:Int))]).length=es.length+1:=by simp
   refine⟨a7,c7,?_,?_⟩
   ·show _=Ending.returned (.tuple #[.slice a7 (es++[(7,0)]).length c7,.int .i64 (endI S (es++[(7,0)],q,fl))]);rw[hl5,← hE];rfl
   show St w w7 [Ent.row 39 2 (.slice a7 (es++[(7,0)]).length c7) (es++[(7,0)]).length ((es++[(7,0)]).flatMap Zaa)];rw[hl5,List.flatMap_append];exact HS8.out
  exact hgo (if_neg h33) (.inr ⟨c,r1,rfl,h33⟩)
theorem Zg8 (n:Nat) (hC:Zek n) (S:List Nat) (i:Nat) (w:World) (hn:fuP 5 (S.drop i)≤n+1) (hl:S.length≤120) (ht:isT S) (hi:i≤S.length) :
  Calls Try.prog 90 #[.string (txB S),.int .i64 (i:Int),.int .i64 4] w fun e w'=>RRs S (rdP jS (n+1) 5 (S.drop i)) w e w':=by
 have hs:=Zah S;have Hht:=qh ht;obtain⟨j0,hj,hy0,hy1,hy2⟩:=info_parts Try.infoPart;obtain⟨r,hr⟩:=eJ (S.drop i);have hrs:r <:+ S:=by rw[← hr];exact List.drop_suffix _ _
 have hrl:r.length≤120:=by have:=hrs.length_le;omega
 rw[hr] at hn ⊢;have hrd:rdP jS (n+1) 5 r=ZcL (rdP jS n 6 r):=rfl;rw[hrd];have hm:=Zbk jS n 6 r;have hsf:=(ZbA jS n 6 r).trans hrs;have hC1:=hC 6 S i w (by omega) (by omega) (by rw[hr];unfold fuP at hn ⊢;omega) hl ht hi;rw[hr] at hC1;obtain⟨x,hx⟩:=eJ (rdP jS n 6 r);rw[hx] at hC1 hm hsf ⊢;obtain⟨es0,q0,fl0⟩:=x;obtain⟨y,hy⟩:=eJ (ZcL (es0,q0,fl0));rw[hy];have HC1:=qh (show Calls Try.prog 90 #[.string (txB S),.int .i64 (i:Int),.int .i64 5] w fun e w'=>RRs S (es0,q0,fl0) w e w' from hC1);have Hhm:=qh hm;have Hsf:=qh hsf;replace hrd:=qh hrd;have Hhx:=qh hx;clear hx;have Hhy:=qh hy;clear hy;replace hr:=qh hr;have Hhrs:=qh hrs;clear hrs;clear hC1 hm hsf hn hi hC
 go_enter Try.func90, Try.ntmps90
 go_wp2_with (go_at_call 90;refine(HC1.out).mono ?_;rintro e w1 ⟨a1,c1,rfl,hS1⟩;replace hS1:=qh hS1)
 go_loopw [12,13] (fun ve vi wr=>(∃ (a:Option Addr) (c:Nat) (es:List (Int × Int)),ve = .slice a es.length c∧vi = .int .i64 (-1)∧y.1=es∧y.2.2=true∧St w wr [Ent.row 39 2 (.slice a es.length c) es.length (es.flatMap Zaa)]) ∨
   (∃ (a:Option Addr) (c:Nat) (es:List (Int × Int)) (r':List Nat),ve = .slice a es.length c∧vi = .int .i64 ((S.length-r'.length:Nat):Int)∧(y=((Zaw es r').1,(Zaw es r').2,false))∧r' <:+ S∧meas r.length (es,r',false)∧St w wr [Ent.row 39 2 (.slice a es.length c) es.length (es.flatMap Zaa)])) (fun _ vi _=>enM S vi)
 case atStart =>
  cases fl0 with
  | true =>have hy2:y=(es0,q0,true):=Hhy.out.symm;exact .inl ⟨a1,c1,es0,rfl,rfl,by rw[hy2],by rw[hy2],hS1.out⟩
  | false =>obtain⟨m1,m2,m3⟩:=Hhm.out;obtain⟨m4,m5⟩:=m3 rfl;simp only at m1 m2 m4 m5;exact .inr ⟨a1,c1,es0,q0,rfl,rfl,Hhy.out.symm,Hsf.out,⟨m1,m2,fun _=>⟨m4,m5⟩⟩,hS1.out⟩
 case round =>
  rcases hrel with⟨a,c,es,rfl,rfl,hy1,hy2,hS⟩|⟨a,c,es,r',rfl,rfl,hyy,hsuf,hme,hS⟩
  ·have HS4:=qh hS;clear hS;go_wp2;subst hy1;refine bodyPost_ret (v:=.tuple #[.slice a y.1.length c,.int .i64 (-1)]) (by simp[results,Try.results90,go_sem]) rfl ?_;exact⟨a,c,by rw[show endI S y = -1 by unfold endI;rw[if_pos hy2]],HS4.out⟩
  cases r' with
  | nil =>
   have hyy2:y=(es,[],false):=hyy;have Hhyy:=qh hyy2;have HS4:=qh hS;have hle:(S.length:Int)≤((S.length-0:Nat):Int):=by omega
   clear hyy hyy2 hme hsuf;clear hS;simp only[List.length_nil,Nat.sub_zero];go_wp2;refine bodyPost_ret (v:=.tuple #[.slice a es.length c,.int .i64 (S.length:Int)]) (by simp[results,Try.results90,go_sem]) rfl ?_;rw[Hhyy.out];exact⟨a,c,rfl,HS4.out⟩
  | cons d r5 =>
   have HS4:=qh hS;obtain⟨hq1,hq2⟩:=ZdQ hsuf;obtain⟨hj1,hjc,hjd,hjl⟩:=ZaR hq1;obtain⟨j,hjj⟩:=eJ (S.length-(d::r5).length);rw[hjj] at hj1 hjc hjd hjl;rw[hjj];have hjI:(j:Int)<(S.length:Int):=by omega
   have hj0:(0:Int)≤(j:Int):=by omega
   have hw2:IntKind.i64.wrap ((j:Int)+1)=(j:Int)+1:=IntWalk.i64_in _ (by omega);have hd256:d<256:=by rw[← hjc];exact Hht.out _ (ZaE hj1)
   have hjx:=fun u=>Zat (l:=S) (i:=j) hj1 Hht.out u
   rw[hjc] at hjx;have hel:es.length≤1000:=by have:=hme.2.1;simp only at this;omega
   have hjl2:S.length=j+1+r5.length:=hjl;have Hhjj:=qh hjj;clear hjj;have Hhjc:=qh hjc;clear hjc;have Hhjl:=qh hjl;clear hjl;have Hhq1:=qh hq1;clear hq1;clear hS;by_cases hds:d=42
   ·subst hds;have hyy2:y=((Zaw (es++[(8,0)]) r5).1,(Zaw (es++[(8,0)]) r5).2,false):=hyy;obtain⟨e5,he5⟩:=eJ (es++[((8:Int),(0:Int))]);rw[he5] at hyy2;have hlen5:e5.length=es.length+1:=by rw[← he5];simp
    have hcel5:e5.flatMap Zaa=es.flatMap Zaa++[.int .i64 8,.int .i64 0]:=by rw[← he5];simp[Zaa]
    have Hhyy:=qh hyy2;have Hhme:=qh hme;have Hhsuf:=qh hsuf;have HS7:=qh (show St w _ [Ent.row 39 2 (.slice a es.length c) es.length (es.flatMap Zaa),Ent.row 39 2 (.slice (some ⟨wr.heap.size,0,none⟩) 1 1) 1 [.int .i64 8,.int .i64 0]] from(HS4.out.alloc wr.heap.size rfl #[.int .i64 8,.int .i64 0] 39).boxrow 1 1 2 [.int .i64 8,.int .i64 0] rfl rfl (by unfold maxLen;omega));have Hhe5:=qh he5;clear he5;have Hhlen5:=qh hlen5;clear hlen5;have Hhcel5:=qh hcel5;clear hcel5;clear hyy hyy2 hme hsuf
    go_wp2_with (first
     | (at_builtin;refine Zae _ rfl _ _ _ rfl _ 39 j0 PZ 2 16 Try.underlying23 hj hy0 hy1 hy2 rfl (by omega) _ es.length _ rfl (HS7.out.row 0 rfl) _ 1 [.int .i64 8,.int .i64 0] rfl ((Zaf (HS7.out.row 1 rfl)).sl (by omega) |>.mono (Nat.zero_le _)) (by intro u hu;simp at hu;rcases hu with rfl|rfl<;>rfl) (by unfold maxLen;omega) (by omega) HS7.out.size ?_;intro a7 c7 w7 hown7 hgrow7 hat7;have HS8:=qh ((HS7.out.appS 0 rfl hown7 hgrow7 hat7).pick [0] (by decide));clear hown7 hgrow7 hat7))
    have hlen5:=Hhlen5.out;have HS10:St w w7 [Ent.row 39 2 (.slice a7 e5.length c7) e5.length (e5.flatMap Zaa)]:=by rw[hlen5,Hhcel5.out];exact HS8.out
    rw[← hlen5];have hme:=Hhme.out;obtain⟨a1,a2,a3⟩:=hme;obtain⟨a4,a5⟩:=a3 rfl;simp only[List.length_cons] at a1 a2 a4 a5;have hmeas:meas r.length (e5,r5,false):=⟨by simp only;omega,by simp only;omega,fun _=>by simp only;omega⟩;have hjn:((S.length-r5.length:Nat):Int)=(j:Int)+1:=by omega
    go_roundw
    case rel=>exact .inr ⟨a7,c7,e5,r5,rfl,by rw[hjn],Hhyy.out,(List.suffix_cons 42 r5).trans Hhsuf.out,hmeas,HS10⟩
    case measure =>show enM S (.int .i64 ((j:Int)+1))<enM S (.int .i64 (j:Int));rw[← hjn,Za4,Za4];omega
   have hyy2:y=(es,d::r5,false):=by rw[hyy];have:Zaw es (d::r5)=(es,d::r5):=if_neg hds;rw[this]
   have n4:((d:Int)=42)=False:=by simp;omega
   have Hhyy:=qh hyy2;clear hyy hyy2 hme hsuf;go_wp2;refine bodyPost_ret (v:=.tuple #[.slice a es.length c,.int .i64 (j:Int)]) (by simp[results,Try.results90,go_sem]) rfl ?_;rw[Hhyy.out];exact⟨a,c,by rw[show endI S (es,d::r5,false)=(j:Int) by unfold endI;simp only[Bool.false_eq_true,if_false];rw[Hhjj.out]],HS4.out⟩
theorem Zdz:∀ n,Zek n
 | 0=>fun l S i w _ h6 hn=>by unfold fuP at hn;omega
 | n+1=>fun l S i w h1 h6 hn hl ht hi=>by
  have hC:=Zdz n;obtain rfl|rfl|rfl|rfl|rfl|rfl:l=1∨l=2∨l=3∨l=4∨l=5∨l=6:=by omega
  ·exact Zhc n hC S i w hn hl ht hi
  ·exact Zhb n hC S i w hn hl ht hi
  ·exact Zha n hC S i w hn hl ht hi
  ·exact Zg9 n hC S i w hn hl ht hi
  ·exact Zg8 n hC S i w hn hl ht hi
  exact Zg7 n hC S i w hn hl ht hi
end Go.Proofs.Ytfgpkadhegdffaa
