/-
  The walks over the reference's reader of expressions, l4Read, levels 0 to 4. It reads as the plain reader rdP does.
  Conditions: the text is one of bytes, at most 120.
-/
import Derived.Test.YtncekbbhgipdlaaGreatPs27Rds
set_option maxHeartbeats 16000000
set_option maxRecDepth 100000
namespace Go.Proofs.YtncekbbhgipdlaaGreat
open Go.RowKit
def enM (S:List Nat) (v:Value):Nat:=if intOf v<0 then 0 else S.length+1-(intOf v).toNat
theorem Zkc (S:List Nat):enM S (.int .i64 (-1))=0:=rfl
theorem ZcB (S:List Nat) (j:Nat):enM S (.int .i64 (j:Int))=S.length+1-j:=by show(if (j:Int)<0 then 0 else S.length+1-(j:Int).toNat)=_;rw[if_neg (by omega),Int.toNat_natCast]
theorem Zqf (n:Nat) (hC:Zkm n) (S:List Nat) (i:Nat) (w:World) (hn:fuP 1 (S.drop i)≤n+1) (hl:S.length≤120) (ht:isT S) (hi:i≤S.length) :
  Calls Tryz.prog 41 #[.string (txB S),.int .i64 (i:Int),.int .i64 0] w fun e w'=>RRs S (rdP jS (n+1) 1 (S.drop i)) w e w':=by
 have hs:=ZaG S;have Hht:=qh ht;obtain⟨j0,hj,hy0,hy1,hy2⟩:=info_parts Tryz.infoPart;obtain⟨r,hr⟩:=eJ (S.drop i);have hrs:r <:+ S:=by rw[← hr];exact List.drop_suffix _ _
 have hrl:r.length≤120:=by have:=hrs.length_le;omega
 rw[hr] at hn ⊢;have hrd:rdP jS (n+1) 1 r=ZaO (rdP jS n 2) jS 1 n (rdP jS n 2 r).1 (rdP jS n 2 r).2.1 (rdP jS n 2 r).2.2:=rfl;rw[hrd];have hm:=Zc4 jS n 2 r;have hsf:=(ZdT jS n 2 r).trans hrs;have hC1:=hC 2 S i w (by omega) (by omega) (by rw[hr];unfold fuP at hn ⊢;omega) hl ht hi;rw[hr] at hC1;obtain⟨x,hx⟩:=eJ (rdP jS n 2 r);rw[hx] at hC1 hm hsf ⊢;obtain⟨es0,q0,fl0⟩:=x;obtain⟨y,hy⟩:=eJ (ZaO (rdP jS n 2) jS 1 n es0 q0 fl0);have hyy0:ZaO (rdP jS n 2) jS 1 n (es0,q0,fl0).1 (es0,q0,fl0).2.1 (es0,q0,fl0).2.2=y:=hy;rw[hyy0];have HC1:=qh (show Calls Tryz.prog 41 #[.string (txB S),.int .i64 (i:Int),.int .i64 1] w fun e w'=>RRs S (es0,q0,fl0) w e w' from hC1);have Hhm:=qh hm;have Hsf:=qh hsf;have Hn:=qh hn;replace hrd:=qh hrd;have Hhx:=qh hx;clear hx;have Hhyy0:=qh hyy0;clear hyy0;have Hhy:=qh hy;clear hy;replace hr:=qh hr;have Hhrs:=qh hrs;clear hrs;clear hC1 hm hsf hn hi
 go_enter Tryz.func41, Tryz.ntmps41
 go_wp2_with (go_at_call 41;refine(HC1.out).mono ?_;rintro e w1 ⟨a1,c1,rfl,hS1⟩;replace hS1:=qh hS1)
 go_loopw [12,13] (fun ve vi wr=>(∃ (a:Option Addr) (c:Nat) (es:List (Int × Int)),ve = .slice a es.length c∧vi = .int .i64 (-1)∧y.1=es∧y.2.2=true∧St w wr [Ent.row 62 2 (.slice a es.length c) es.length (es.flatMap Zaa)]) ∨
   (∃ (a:Option Addr) (c:Nat) (es:List (Int × Int)) (r':List Nat) (kk:Nat),ve = .slice a es.length c∧vi = .int .i64 ((S.length-r'.length:Nat):Int)∧(ZaO (rdP jS n 2) jS 1 kk es r' false=y∧r'.length<kk)∧r' <:+ S∧meas r.length (es,r',false)∧St w wr [Ent.row 62 2 (.slice a es.length c) es.length (es.flatMap Zaa)])) (fun _ vi _=>enM S vi)
 case atStart =>
  cases fl0 with
  | true =>
   have hy2:y=(es0,q0,true):=by rw[← Hhy.out];cases n<;>rfl
   exact .inl ⟨a1,c1,es0,rfl,rfl,by rw[hy2],by rw[hy2],hS1.out⟩
  | false =>obtain⟨m1,m2,m3⟩:=Hhm.out;obtain⟨m4,m5⟩:=m3 rfl;simp only at m1 m2 m4 m5;exact .inr ⟨a1,c1,es0,q0,n,rfl,rfl,⟨Hhy.out,by have:=Hn.out;unfold fuP at this;omega⟩,Hsf.out,⟨m1,m2,fun _=>⟨m4,m5⟩⟩,hS1.out⟩
 case round =>
  rcases hrel with⟨a,c,es,rfl,rfl,hy1,hy2,hS⟩|⟨a,c,es,r',k1,rfl,rfl,⟨hyy,hkk⟩,hsuf,hme,hS⟩
  ·have HS4:=qh hS;clear hS;go_wp2;subst hy1;refine bodyPost_ret (v:=.tuple #[.slice a y.1.length c,.int .i64 (-1)]) (by simp[results,Tryz.results41,go_sem]) rfl ?_;exact⟨a,c,by rw[show endI S y = -1 by unfold endI;rw[if_pos hy2]],HS4.out⟩
  obtain⟨kk,rfl⟩:∃ kk,k1=kk+1:=⟨k1-1,by omega⟩;cases r' with
  | nil =>
   have hyy2:y=(es,[],false):=hyy.symm;have Hhyy:=qh hyy2;have HS4:=qh hS;have hle:(S.length:Int)≤((S.length-0:Nat):Int):=by omega
   clear hyy hyy2 hme hsuf;clear hS;simp only[List.length_nil,Nat.sub_zero];go_wp2;refine bodyPost_ret (v:=.tuple #[.slice a es.length c,.int .i64 (S.length:Int)]) (by simp[results,Tryz.results41,go_sem]) rfl ?_;rw[Hhyy.out];exact⟨a,c,rfl,HS4.out⟩
  | cons d r5 =>
   have HS4:=qh hS;obtain⟨hq1,hq2⟩:=ZjE hsuf;obtain⟨hj1,hjc,hjd,hjl⟩:=Zcb hq1;obtain⟨j,hjj⟩:=eJ (S.length-(d::r5).length);rw[hjj] at hj1 hjc hjd hjl;rw[hjj];have hjI:(j:Int)<(S.length:Int):=by omega
   have hj0:(0:Int)≤(j:Int):=by omega
   have hw2:IntKind.i64.wrap ((j:Int)+1)=(j:Int)+1:=IntWalk.i64_in _ (by omega);have hd256:d<256:=by rw[← hjc];exact Hht.out _ (Zcz hj1)
   have hjx:=fun u=>ZbE (l:=S) (i:=j) hj1 Hht.out u
   rw[hjc] at hjx;have hel:es.length≤1000:=by have:=hme.2.1;simp only at this;omega
   have hjl2:S.length=j+1+r5.length:=hjl;have Hhjj:=qh hjj;clear hjj;have Hhjc:=qh hjc;clear hjc;have Hhjl:=qh hjl;clear hjl;have Hhq1:=qh hq1;clear hq1;clear hS;by_cases hds:d=124
   ·subst hds;have hyy:ZaO (rdP jS n 2) jS 1 kk (es++(rdP jS n 2 r5).1++[(opK 1,0)]) (rdP jS n 2 r5).2.1 (rdP jS n 2 r5).2.2=y:=hyy;have hdr:S.drop (j+1)=r5:=hjd;have hm9:=Zc4 jS n 2 r5;have hsf9:=(ZdT jS n 2 r5).trans (by rw[← hdr];exact List.drop_suffix _ _:r5 <:+ S);have hlr:(r5).length≤r.length:=by have:=hme.1;simp at this ⊢;omega
    have hC9:=fun (u:World)=>(show Calls Tryz.prog 41 #[.string (txB S),.int .i64 ((j:Int)+1),.int .i64 1] u fun e w'=>RRs S (rdP jS n 2 r5) u e w' from by have h:=hC 2 S (j+1) u (by omega) (by omega) (by rw[hdr];have:=Hn.out;unfold fuP at this ⊢;omega) hl Hht.out (by omega);rw[hdr] at h;exact h)
    obtain⟨x9,hx9⟩:=eJ (rdP jS n 2 r5);rw[hx9] at hm9 hsf9 hyy;rw[hx9] at hC9;obtain⟨e9,q9,fl9⟩:=x9;have hel9:e9.length≤1000:=by have:=hm9.2.1;simp only at this;omega
    have HC9:=qh hC9;obtain⟨e5,he5⟩:=eJ (es++e9++[(5,0)]);simp only at hyy;rw[show opK 1=5 from rfl,he5] at hyy;have hlen5:e5.length=es.length+e9.length+1:=by rw[← he5];simp;omega
    have hcel5:e5.flatMap Zaa=(es.flatMap Zaa++e9.flatMap Zaa)++[.int .i64 5,.int .i64 0]:=by rw[← he5];simp[Zaa]
    have Hhm9:=qh hm9;have Hsf9:=qh hsf9;have Hhme:=qh hme;have Hhsuf:=qh hsuf;have Hhdr:=qh hdr;clear hdr;have Hhlen5:=qh hlen5;clear hlen5;have Hhcel5:=qh hcel5;clear hcel5;have Hhx9:=qh hx9;clear hx9;have Hhe5:=qh he5;clear he5;have Hhyy:=qh hyy;clear hyy;clear hC9 hm9 hme hsf9 hsuf
    go_wp2_with (first
     | (go_at_call 41;refine(HC9.out _).mono ?_;rintro e w2 ⟨a9,c9,rfl,hS9⟩;have HS9:=qh (show St w w2 [Ent.row 62 2 (.slice a es.length c) es.length (es.flatMap Zaa),Ent.row 62 2 (.slice a9 e9.length c9) e9.length (e9.flatMap Zaa)] from HS4.out.cat hS9);clear hS9)
     | (at_builtin;refine Zal _ rfl _ _ _ rfl _ 62 j0 PZ 2 16 Tryz.underlying28 hj hy0 hy1 hy2 rfl (by omega) _ es.length _ rfl (HS9.out.row 0 rfl) _ e9.length (e9.flatMap Zaa) rfl ((Zab (HS9.out.row 1 rfl)).sl (by omega) |>.mono (Nat.zero_le _)) Zds (by unfold maxLen;omega) (by omega) HS9.out.size ?_;intro a6 c6 w6 hown6 hgrow6 hat6;have hS6:=(HS9.out.appS 0 rfl hown6 hgrow6 hat6).pick [0] (by decide);have hS7:St w _ [Ent.row 62 2 (.slice a6 (es.length+e9.length) c6) (es.length+e9.length) (es.flatMap Zaa++e9.flatMap Zaa),Ent.row 62 2 (.slice (some ⟨w6.heap.size,0,none⟩) 1 1) 1 [.int .i64 5,.int .i64 0]]:=(hS6.alloc w6.heap.size rfl #[.int .i64 5,.int .i64 0] 62).boxrow 1 1 2 [.int .i64 5,.int .i64 0] rfl rfl (by unfold maxLen;omega);have HS7:=qh hS7;clear hown6 hgrow6 hat6 hS6 hS7)
     | (at_builtin;refine Zal _ rfl _ _ _ rfl _ 62 j0 PZ 2 16 Tryz.underlying28 hj hy0 hy1 hy2 rfl (by omega) _ (es.length+e9.length) _ rfl (HS7.out.row 0 rfl) _ 1 [.int .i64 5,.int .i64 0] rfl ((Zab (HS7.out.row 1 rfl)).sl (by omega) |>.mono (Nat.zero_le _)) (by intro u hu;simp at hu;rcases hu with rfl|rfl<;>rfl) (by unfold maxLen;omega) (by omega) HS7.out.size ?_;intro a7 c7 w7 hown7 hgrow7 hat7;have HS8:=qh ((HS7.out.appS 0 rfl hown7 hgrow7 hat7).pick [0] (by decide));clear hown7 hgrow7 hat7))
    have hm9:=Hhm9.out;have hme:=Hhme.out;have hlen5:=Hhlen5.out;have hyy:=Hhyy.out;have HS10:St w w7 [Ent.row 62 2 (.slice a7 e5.length c7) e5.length (e5.flatMap Zaa)]:=by rw[hlen5,Hhcel5.out];exact HS8.out
    rw[← hlen5];cases fl9 with
    | true =>
     have hy2:y=(e5,q9,true):=by rw[← hyy];cases kk<;>rfl
     go_roundw
     case rel=>exact .inl ⟨a7,c7,e5,rfl,rfl,by rw[hy2],by rw[hy2],HS10⟩
     case measure =>show enM S (.int .i64 (-1))<enM S (.int .i64 (j:Int));rw[Zkc,ZcB];omega
    | false =>
     obtain⟨-,-,b3⟩:=hm9;obtain⟨b4,b5⟩:=b3 rfl;obtain⟨a1,a2,a3⟩:=hme;obtain⟨a4,a5⟩:=a3 rfl;simp only[List.length_cons] at b4 b5 a1 a2 a4 a5;have hmeas:meas r.length (e5,q9,false):=⟨by simp only;omega,by simp only;omega,fun _=>by simp only;omega⟩;have hq9l:=Hsf9.out.length_le;go_roundw
     case rel=>exact .inr ⟨a7,c7,e5,q9,kk,rfl,rfl,⟨hyy,by simp only[List.length_cons] at hkk;omega⟩,Hsf9.out,hmeas,HS10⟩
     case measure =>show enM S (.int .i64 ((S.length-q9.length:Nat):Int))<enM S (.int .i64 (j:Int));rw[ZcB,ZcB];omega
   have hyy2:y=(es,d::r5,false):=by
    rw[← hyy];unfold ZaO;rw[if_neg (by simp)];have hc:ZeB jS 1 (d::r5)=none:=by show(if 1=1∧d=124∨1=2∧d=38 then some r5 else if 1=3∧jS d=true then some (d::r5) else none)=none;rw[if_neg (by omega),if_neg (by omega)]
    rw[hc]
   have n4:((d:Int)=124)=False:=by simp;omega
   have Hhyy:=qh hyy2;clear hyy hyy2 hme hsuf;go_wp2;refine bodyPost_ret (v:=.tuple #[.slice a es.length c,.int .i64 (j:Int)]) (by simp[results,Tryz.results41,go_sem]) rfl ?_;rw[Hhyy.out];exact⟨a,c,by rw[show endI S (es,d::r5,false)=(j:Int) by unfold endI;simp only[Bool.false_eq_true,if_false];rw[Hhjj.out]],HS4.out⟩
theorem Zqe (n:Nat) (hC:Zkm n) (S:List Nat) (i:Nat) (w:World) (hn:fuP 2 (S.drop i)≤n+1) (hl:S.length≤120) (ht:isT S) (hi:i≤S.length) :
  Calls Tryz.prog 41 #[.string (txB S),.int .i64 (i:Int),.int .i64 1] w fun e w'=>RRs S (rdP jS (n+1) 2 (S.drop i)) w e w':=by
 have hs:=ZaG S;have Hht:=qh ht;obtain⟨j0,hj,hy0,hy1,hy2⟩:=info_parts Tryz.infoPart;obtain⟨r,hr⟩:=eJ (S.drop i);have hrs:r <:+ S:=by rw[← hr];exact List.drop_suffix _ _
 have hrl:r.length≤120:=by have:=hrs.length_le;omega
 rw[hr] at hn ⊢;have hrd:rdP jS (n+1) 2 r=ZaO (rdP jS n 3) jS 2 n (rdP jS n 3 r).1 (rdP jS n 3 r).2.1 (rdP jS n 3 r).2.2:=rfl;rw[hrd];have hm:=Zc4 jS n 3 r;have hsf:=(ZdT jS n 3 r).trans hrs;have hC1:=hC 3 S i w (by omega) (by omega) (by rw[hr];unfold fuP at hn ⊢;omega) hl ht hi;rw[hr] at hC1;obtain⟨x,hx⟩:=eJ (rdP jS n 3 r);rw[hx] at hC1 hm hsf ⊢;obtain⟨es0,q0,fl0⟩:=x;obtain⟨y,hy⟩:=eJ (ZaO (rdP jS n 3) jS 2 n es0 q0 fl0);have hyy0:ZaO (rdP jS n 3) jS 2 n (es0,q0,fl0).1 (es0,q0,fl0).2.1 (es0,q0,fl0).2.2=y:=hy;rw[hyy0];have HC1:=qh (show Calls Tryz.prog 41 #[.string (txB S),.int .i64 (i:Int),.int .i64 2] w fun e w'=>RRs S (es0,q0,fl0) w e w' from hC1);have Hhm:=qh hm;have Hsf:=qh hsf;have Hn:=qh hn;replace hrd:=qh hrd;have Hhx:=qh hx;clear hx;have Hhyy0:=qh hyy0;clear hyy0;have Hhy:=qh hy;clear hy;replace hr:=qh hr;have Hhrs:=qh hrs;clear hrs;clear hC1 hm hsf hn hi
 go_enter Tryz.func41, Tryz.ntmps41
 go_wp2_with (go_at_call 41;refine(HC1.out).mono ?_;rintro e w1 ⟨a1,c1,rfl,hS1⟩;replace hS1:=qh hS1)
 go_loopw [12,13] (fun ve vi wr=>(∃ (a:Option Addr) (c:Nat) (es:List (Int × Int)),ve = .slice a es.length c∧vi = .int .i64 (-1)∧y.1=es∧y.2.2=true∧St w wr [Ent.row 62 2 (.slice a es.length c) es.length (es.flatMap Zaa)]) ∨
   (∃ (a:Option Addr) (c:Nat) (es:List (Int × Int)) (r':List Nat) (kk:Nat),ve = .slice a es.length c∧vi = .int .i64 ((S.length-r'.length:Nat):Int)∧(ZaO (rdP jS n 3) jS 2 kk es r' false=y∧r'.length<kk)∧r' <:+ S∧meas r.length (es,r',false)∧St w wr [Ent.row 62 2 (.slice a es.length c) es.length (es.flatMap Zaa)])) (fun _ vi _=>enM S vi)
 case atStart =>
  cases fl0 with
  | true =>
   have hy2:y=(es0,q0,true):=by rw[← Hhy.out];cases n<;>rfl
   exact .inl ⟨a1,c1,es0,rfl,rfl,by rw[hy2],by rw[hy2],hS1.out⟩
  | false =>obtain⟨m1,m2,m3⟩:=Hhm.out;obtain⟨m4,m5⟩:=m3 rfl;simp only at m1 m2 m4 m5;exact .inr ⟨a1,c1,es0,q0,n,rfl,rfl,⟨Hhy.out,by have:=Hn.out;unfold fuP at this;omega⟩,Hsf.out,⟨m1,m2,fun _=>⟨m4,m5⟩⟩,hS1.out⟩
 case round =>
  rcases hrel with⟨a,c,es,rfl,rfl,hy1,hy2,hS⟩|⟨a,c,es,r',k1,rfl,rfl,⟨hyy,hkk⟩,hsuf,hme,hS⟩
  ·have HS4:=qh hS;clear hS;go_wp2;subst hy1;refine bodyPost_ret (v:=.tuple #[.slice a y.1.length c,.int .i64 (-1)]) (by simp[results,Tryz.results41,go_sem]) rfl ?_;exact⟨a,c,by rw[show endI S y = -1 by unfold endI;rw[if_pos hy2]],HS4.out⟩
  obtain⟨kk,rfl⟩:∃ kk,k1=kk+1:=⟨k1-1,by omega⟩;cases r' with
  | nil =>
   have hyy2:y=(es,[],false):=hyy.symm;have Hhyy:=qh hyy2;have HS4:=qh hS;have hle:(S.length:Int)≤((S.length-0:Nat):Int):=by omega
   clear hyy hyy2 hme hsuf;clear hS;simp only[List.length_nil,Nat.sub_zero];go_wp2;refine bodyPost_ret (v:=.tuple #[.slice a es.length c,.int .i64 (S.length:Int)]) (by simp[results,Tryz.results41,go_sem]) rfl ?_;rw[Hhyy.out];exact⟨a,c,rfl,HS4.out⟩
  | cons d r5 =>
   have HS4:=qh hS;obtain⟨hq1,hq2⟩:=ZjE hsuf;obtain⟨hj1,hjc,hjd,hjl⟩:=Zcb hq1;obtain⟨j,hjj⟩:=eJ (S.length-(d::r5).length);rw[hjj] at hj1 hjc hjd hjl;rw[hjj];have hjI:(j:Int)<(S.length:Int):=by omega
   have hj0:(0:Int)≤(j:Int):=by omega
   have hw2:IntKind.i64.wrap ((j:Int)+1)=(j:Int)+1:=IntWalk.i64_in _ (by omega);have hd256:d<256:=by rw[← hjc];exact Hht.out _ (Zcz hj1)
   have hjx:=fun u=>ZbE (l:=S) (i:=j) hj1 Hht.out u
   rw[hjc] at hjx;have hel:es.length≤1000:=by have:=hme.2.1;simp only at this;omega
   have hjl2:S.length=j+1+r5.length:=hjl;have Hhjj:=qh hjj;clear hjj;have Hhjc:=qh hjc;clear hjc;have Hhjl:=qh hjl;clear hjl;have Hhq1:=qh hq1;clear hq1;clear hS;by_cases hds:d=38
   ·subst hds;have hyy:ZaO (rdP jS n 3) jS 2 kk (es++(rdP jS n 3 r5).1++[(opK 2,0)]) (rdP jS n 3 r5).2.1 (rdP jS n 3 r5).2.2=y:=hyy;have hdr:S.drop (j+1)=r5:=hjd;have hm9:=Zc4 jS n 3 r5;have hsf9:=(ZdT jS n 3 r5).trans (by rw[← hdr];exact List.drop_suffix _ _:r5 <:+ S);have hlr:(r5).length≤r.length:=by have:=hme.1;simp at this ⊢;omega
    have hC9:=fun (u:World)=>(show Calls Tryz.prog 41 #[.string (txB S),.int .i64 ((j:Int)+1),.int .i64 2] u fun e w'=>RRs S (rdP jS n 3 r5) u e w' from by have h:=hC 3 S (j+1) u (by omega) (by omega) (by rw[hdr];have:=Hn.out;unfold fuP at this ⊢;omega) hl Hht.out (by omega);rw[hdr] at h;exact h)
    obtain⟨x9,hx9⟩:=eJ (rdP jS n 3 r5);rw[hx9] at hm9 hsf9 hyy;rw[hx9] at hC9;obtain⟨e9,q9,fl9⟩:=x9;have hel9:e9.length≤1000:=by have:=hm9.2.1;simp only at this;omega
    have HC9:=qh hC9;obtain⟨e5,he5⟩:=eJ (es++e9++[(6,0)]);simp only at hyy;rw[show opK 2=6 from rfl,he5] at hyy;have hlen5:e5.length=es.length+e9.length+1:=by rw[← he5];simp;omega
    have hcel5:e5.flatMap Zaa=(es.flatMap Zaa++e9.flatMap Zaa)++[.int .i64 6,.int .i64 0]:=by rw[← he5];simp[Zaa]
    have Hhm9:=qh hm9;have Hsf9:=qh hsf9;have Hhme:=qh hme;have Hhsuf:=qh hsuf;have Hhdr:=qh hdr;clear hdr;have Hhlen5:=qh hlen5;clear hlen5;have Hhcel5:=qh hcel5;clear hcel5;have Hhx9:=qh hx9;clear hx9;have Hhe5:=qh he5;clear he5;have Hhyy:=qh hyy;clear hyy;clear hC9 hm9 hme hsf9 hsuf
    go_wp2_with (first
     | (go_at_call 41;refine(HC9.out _).mono ?_;rintro e w2 ⟨a9,c9,rfl,hS9⟩;have HS9:=qh (show St w w2 [Ent.row 62 2 (.slice a es.length c) es.length (es.flatMap Zaa),Ent.row 62 2 (.slice a9 e9.length c9) e9.length (e9.flatMap Zaa)] from HS4.out.cat hS9);clear hS9)
     | (at_builtin;refine Zal _ rfl _ _ _ rfl _ 62 j0 PZ 2 16 Tryz.underlying28 hj hy0 hy1 hy2 rfl (by omega) _ es.length _ rfl (HS9.out.row 0 rfl) _ e9.length (e9.flatMap Zaa) rfl ((Zab (HS9.out.row 1 rfl)).sl (by omega) |>.mono (Nat.zero_le _)) Zds (by unfold maxLen;omega) (by omega) HS9.out.size ?_;intro a6 c6 w6 hown6 hgrow6 hat6;have hS6:=(HS9.out.appS 0 rfl hown6 hgrow6 hat6).pick [0] (by decide);have hS7:St w _ [Ent.row 62 2 (.slice a6 (es.length+e9.length) c6) (es.length+e9.length) (es.flatMap Zaa++e9.flatMap Zaa),Ent.row 62 2 (.slice (some ⟨w6.heap.size,0,none⟩) 1 1) 1 [.int .i64 6,.int .i64 0]]:=(hS6.alloc w6.heap.size rfl #[.int .i64 6,.int .i64 0] 62).boxrow 1 1 2 [.int .i64 6,.int .i64 0] rfl rfl (by unfold maxLen;omega);have HS7:=qh hS7;clear hown6 hgrow6 hat6 hS6 hS7)
     | (at_builtin;refine Zal _ rfl _ _ _ rfl _ 62 j0 PZ 2 16 Tryz.underlying28 hj hy0 hy1 hy2 rfl (by omega) _ (es.length+e9.length) _ rfl (HS7.out.row 0 rfl) _ 1 [.int .i64 6,.int .i64 0] rfl ((Zab (HS7.out.row 1 rfl)).sl (by omega) |>.mono (Nat.zero_le _)) (by intro u hu;simp at hu;rcases hu with rfl|rfl<;>rfl) (by unfold maxLen;omega) (by omega) HS7.out.size ?_;intro a7 c7 w7 hown7 hgrow7 hat7;have HS8:=qh ((HS7.out.appS 0 rfl hown7 hgrow7 hat7).pick [0] (by decide));clear hown7 hgrow7 hat7))
    have hm9:=Hhm9.out;have hme:=Hhme.out;have hlen5:=Hhlen5.out;have hyy:=Hhyy.out;have HS10:St w w7 [Ent.row 62 2 (.slice a7 e5.length c7) e5.length (e5.flatMap Zaa)]:=by rw[hlen5,Hhcel5.out];exact HS8.out
    rw[← hlen5];cases fl9 with
    | true =>
     have hy2:y=(e5,q9,true):=by rw[← hyy];cases kk<;>rfl
     go_roundw
     case rel=>exact .inl ⟨a7,c7,e5,rfl,rfl,by rw[hy2],by rw[hy2],HS10⟩
     case measure =>show enM S (.int .i64 (-1))<enM S (.int .i64 (j:Int));rw[Zkc,ZcB];omega
    | false =>
     obtain⟨-,-,b3⟩:=hm9;obtain⟨b4,b5⟩:=b3 rfl;obtain⟨a1,a2,a3⟩:=hme;obtain⟨a4,a5⟩:=a3 rfl;simp only[List.length_cons] at b4 b5 a1 a2 a4 a5;have hmeas:meas r.length (e5,q9,false):=⟨by simp only;omega,by simp only;omega,fun _=>by simp only;omega⟩;have hq9l:=Hsf9.out.length_le;go_roundw
     case rel=>exact .inr ⟨a7,c7,e5,q9,kk,rfl,rfl,⟨hyy,by simp only[List.length_cons] at hkk;omega⟩,Hsf9.out,hmeas,HS10⟩
     case measure =>show enM S (.int .i64 ((S.length-q9.length:Nat):Int))<enM S (.int .i64 (j:Int));rw[ZcB,ZcB];omega
   have hyy2:y=(es,d::r5,false):=by
    rw[← hyy];unfold ZaO;rw[if_neg (by simp)];have hc:ZeB jS 2 (d::r5)=none:=by show(if 2=1∧d=124∨2=2∧d=38 then some r5 else if 2=3∧jS d=true then some (d::r5) else none)=none;rw[if_neg (by omega),if_neg (by omega)]
    rw[hc]
   have n4:((d:Int)=38)=False:=by simp;omega
   have Hhyy:=qh hyy2;clear hyy hyy2 hme hsuf;go_wp2;refine bodyPost_ret (v:=.tuple #[.slice a es.length c,.int .i64 (j:Int)]) (by simp[results,Tryz.results41,go_sem]) rfl ?_;rw[Hhyy.out];exact⟨a,c,by rw[show endI S (es,d::r5,false)=(j:Int) by unfold endI;simp only[Bool.false_eq_true,if_false];rw[Hhjj.out]],HS4.out⟩
theorem Zqd (n:Nat) (hC:Zkm n) (S:List Nat) (i:Nat) (w:World) (hn:fuP 3 (S.drop i)≤n+1) (hl:S.length≤120) (ht:isT S) (hi:i≤S.length) :
  Calls Tryz.prog 41 #[.string (txB S),.int .i64 (i:Int),.int .i64 2] w fun e w'=>RRs S (rdP jS (n+1) 3 (S.drop i)) w e w':=by
 have hs:=ZaG S;have Hht:=qh ht;obtain⟨j0,hj,hy0,hy1,hy2⟩:=info_parts Tryz.infoPart;obtain⟨r,hr⟩:=eJ (S.drop i);have hrs:r <:+ S:=by rw[← hr];exact List.drop_suffix _ _
 have hrl:r.length≤120:=by have:=hrs.length_le;omega
 rw[hr] at hn ⊢;have hrd:rdP jS (n+1) 3 r=ZaO (rdP jS n 4) jS 3 n (rdP jS n 4 r).1 (rdP jS n 4 r).2.1 (rdP jS n 4 r).2.2:=rfl;rw[hrd];have hm:=Zc4 jS n 4 r;have hsf:=(ZdT jS n 4 r).trans hrs;have hC1:=hC 4 S i w (by omega) (by omega) (by rw[hr];unfold fuP at hn ⊢;omega) hl ht hi;rw[hr] at hC1;obtain⟨x,hx⟩:=eJ (rdP jS n 4 r);rw[hx] at hC1 hm hsf ⊢;obtain⟨es0,q0,fl0⟩:=x;obtain⟨y,hy⟩:=eJ (ZaO (rdP jS n 4) jS 3 n es0 q0 fl0);have hyy0:ZaO (rdP jS n 4) jS 3 n (es0,q0,fl0).1 (es0,q0,fl0).2.1 (es0,q0,fl0).2.2=y:=hy;rw[hyy0];have HC1:=qh (show Calls Tryz.prog 41 #[.string (txB S),.int .i64 (i:Int),.int .i64 3] w fun e w'=>RRs S (es0,q0,fl0) w e w' from hC1);have Hhm:=qh hm;have Hsf:=qh hsf;have Hn:=qh hn;replace hrd:=qh hrd;have Hhx:=qh hx;clear hx;have Hhyy0:=qh hyy0;clear hyy0;have Hhy:=qh hy;clear hy;replace hr:=qh hr;have Hhrs:=qh hrs;clear hrs;clear hC1 hm hsf hn hi
 go_enter Tryz.func41, Tryz.ntmps41
 go_wp2_with (go_at_call 41;refine(HC1.out).mono ?_;rintro e w1 ⟨a1,c1,rfl,hS1⟩;replace hS1:=qh hS1)
 go_loopw [12,13] (fun ve vi wr=>(∃ (a:Option Addr) (c:Nat) (es:List (Int × Int)),ve = .slice a es.length c∧vi = .int .i64 (-1)∧y.1=es∧y.2.2=true∧St w wr [Ent.row 62 2 (.slice a es.length c) es.length (es.flatMap Zaa)]) ∨
   (∃ (a:Option Addr) (c:Nat) (es:List (Int × Int)) (r':List Nat) (kk:Nat),ve = .slice a es.length c∧vi = .int .i64 ((S.length-r'.length:Nat):Int)∧(ZaO (rdP jS n 4) jS 3 kk es r' false=y∧r'.length<kk)∧r' <:+ S∧meas r.length (es,r',false)∧St w wr [Ent.row 62 2 (.slice a es.length c) es.length (es.flatMap Zaa)])) (fun _ vi _=>enM S vi)
 case atStart =>
  cases fl0 with
  | true =>
   have hy2:y=(es0,q0,true):=by rw[← Hhy.out];cases n<;>rfl
   exact .inl ⟨a1,c1,es0,rfl,rfl,by rw[hy2],by rw[hy2],hS1.out⟩
  | false =>obtain⟨m1,m2,m3⟩:=Hhm.out;obtain⟨m4,m5⟩:=m3 rfl;simp only at m1 m2 m4 m5;exact .inr ⟨a1,c1,es0,q0,n,rfl,rfl,⟨Hhy.out,by have:=Hn.out;unfold fuP at this;omega⟩,Hsf.out,⟨m1,m2,fun _=>⟨m4,m5⟩⟩,hS1.out⟩
 case round =>
  rcases hrel with⟨a,c,es,rfl,rfl,hy1,hy2,hS⟩|⟨a,c,es,r',k1,rfl,rfl,⟨hyy,hkk⟩,hsuf,hme,hS⟩
  ·have HS4:=qh hS;clear hS;go_wp2;subst hy1;refine bodyPost_ret (v:=.tuple #[.slice a y.1.length c,.int .i64 (-1)]) (by simp[results,Tryz.results41,go_sem]) rfl ?_;exact⟨a,c,by rw[show endI S y = -1 by unfold endI;rw[if_pos hy2]],HS4.out⟩
  obtain⟨kk,rfl⟩:∃ kk,k1=kk+1:=⟨k1-1,by omega⟩;cases r' with
  | nil =>
   have hyy2:y=(es,[],false):=hyy.symm;have Hhyy:=qh hyy2;have HS4:=qh hS;have hle:(S.length:Int)≤((S.length-0:Nat):Int):=by omega
   clear hyy hyy2 hme hsuf;clear hS;simp only[List.length_nil,Nat.sub_zero];go_wp2;refine bodyPost_ret (v:=.tuple #[.slice a es.length c,.int .i64 (S.length:Int)]) (by simp[results,Tryz.results41,go_sem]) rfl ?_;rw[Hhyy.out];exact⟨a,c,rfl,HS4.out⟩
  | cons d r5 =>
   have HS4:=qh hS;obtain⟨hq1,hq2⟩:=ZjE hsuf;obtain⟨hj1,hjc,hjd,hjl⟩:=Zcb hq1;obtain⟨j,hjj⟩:=eJ (S.length-(d::r5).length);rw[hjj] at hj1 hjc hjd hjl;rw[hjj];have hjI:(j:Int)<(S.length:Int):=by omega
   have hj0:(0:Int)≤(j:Int):=by omega
   have hw2:IntKind.i64.wrap ((j:Int)+1)=(j:Int)+1:=IntWalk.i64_in _ (by omega);have hd256:d<256:=by rw[← hjc];exact Hht.out _ (Zcz hj1)
   have hjx:=fun u=>ZbE (l:=S) (i:=j) hj1 Hht.out u
   rw[hjc] at hjx;have hel:es.length≤1000:=by have:=hme.2.1;simp only at this;omega
   have hjl2:S.length=j+1+r5.length:=hjl;have Hhjj:=qh hjj;clear hjj;have Hhjc:=qh hjc;clear hjc;have Hhjl:=qh hjl;clear hjl;have Hhq1:=qh hq1;clear hq1;clear hS;have Hhq1x:=qh (show S.drop j=d::r5 from by have:=Hhq1.out;rw[Hhjj.out] at this;exact this);by_cases hds:d=124∨d=38∨d=41∨d=42
   ·have hyy2:y=(es,d::r5,false):=by
     rw[← hyy];unfold ZaO;rw[if_neg (by simp)];have hc:ZeB jS 3 (d::r5)=none:=by show(if 3=1∧d=124∨3=2∧d=38 then some r5 else if 3=3∧jS d=true then some (d::r5) else none)=none;rw[if_neg (by omega),if_neg];rintro⟨-,h⟩;rcases hds with rfl|rfl|rfl|rfl<;>simp[jS] at h
     rw[hc]
    have Hhyy:=qh hyy2;clear hyy hyy2 hme hsuf;obtain rfl|hds:=hds
    ·go_wp2;refine bodyPost_ret (v:=.tuple #[.slice a es.length c,.int .i64 (j:Int)]) (by simp[results,Tryz.results41,go_sem]) rfl ?_;rw[Hhyy.out];exact⟨a,c,by rw[show endI S (es,124::r5,false)=(j:Int) by unfold endI;simp only[Bool.false_eq_true,if_false];rw[Hhjj.out]],HS4.out⟩
    obtain rfl|hds:=hds
    ·go_wp2;refine bodyPost_ret (v:=.tuple #[.slice a es.length c,.int .i64 (j:Int)]) (by simp[results,Tryz.results41,go_sem]) rfl ?_;rw[Hhyy.out];exact⟨a,c,by rw[show endI S (es,38::r5,false)=(j:Int) by unfold endI;simp only[Bool.false_eq_true,if_false];rw[Hhjj.out]],HS4.out⟩
    obtain rfl|rfl:=hds
    ·go_wp2;refine bodyPost_ret (v:=.tuple #[.slice a es.length c,.int .i64 (j:Int)]) (by simp[results,Tryz.results41,go_sem]) rfl ?_;rw[Hhyy.out];exact⟨a,c,by rw[show endI S (es,41::r5,false)=(j:Int) by unfold endI;simp only[Bool.false_eq_true,if_false];rw[Hhjj.out]],HS4.out⟩
    go_wp2;refine bodyPost_ret (v:=.tuple #[.slice a es.length c,.int .i64 (j:Int)]) (by simp[results,Tryz.results41,go_sem]) rfl ?_;rw[Hhyy.out];exact⟨a,c,by rw[show endI S (es,42::r5,false)=(j:Int) by unfold endI;simp only[Bool.false_eq_true,if_false];rw[Hhjj.out]],HS4.out⟩
   have hj2:jS d=true:=by unfold jS;simp;omega
   have hyy:ZaO (rdP jS n 4) jS 3 kk (es++(rdP jS n 4 (d::r5)).1++[(opK 3,0)]) (rdP jS n 4 (d::r5)).2.1 (rdP jS n 4 (d::r5)).2.2=y:=by
    rw[← hyy];have hc:ZeB jS 3 (d::r5)=some (d::r5):=by show(if 3=1∧d=124∨3=2∧d=38 then some r5 else if 3=3∧jS d=true then some (d::r5) else none)=_;rw[if_neg (by omega),if_pos ⟨rfl,hj2⟩]
    conv=>rhs;unfold ZaO
    rw[if_neg (by simp),hc]
   have Hhj2:=qh hj2;clear hj2;have m124:((d:Int) != 124)=true:=by simp;omega
   have m38:((d:Int) != 38)=true:=by simp;omega
   have m41:((d:Int) != 41)=true:=by simp;omega
   have m42:((d:Int) != 42)=true:=by simp;omega
   have hdr:S.drop (j)=(d::r5):=Hhq1x.out;have hm9:=Zc4 jS n 4 (d::r5);have hsf9:=(ZdT jS n 4 (d::r5)).trans (by rw[← hdr];exact List.drop_suffix _ _:(d::r5) <:+ S);have hlr:((d::r5)).length≤r.length:=by have:=hme.1;simp at this ⊢;omega
   have hC9:=fun (u:World)=>(show Calls Tryz.prog 41 #[.string (txB S),.int .i64 (j:Int),.int .i64 3] u fun e w'=>RRs S (rdP jS n 4 (d::r5)) u e w' from by have h:=hC 4 S (j) u (by omega) (by omega) (by rw[hdr];have:=Hn.out;unfold fuP at this ⊢;omega) hl Hht.out (by omega);rw[hdr] at h;exact h)
   obtain⟨x9,hx9⟩:=eJ (rdP jS n 4 (d::r5));rw[hx9] at hm9 hsf9 hyy;rw[hx9] at hC9;obtain⟨e9,q9,fl9⟩:=x9;have hel9:e9.length≤1000:=by have:=hm9.2.1;simp only at this;omega
   have HC9:=qh hC9;obtain⟨e5,he5⟩:=eJ (es++e9++[(4,0)]);simp only at hyy;rw[show opK 3=4 from rfl,he5] at hyy;have hlen5:e5.length=es.length+e9.length+1:=by rw[← he5];simp;omega
   have hcel5:e5.flatMap Zaa=(es.flatMap Zaa++e9.flatMap Zaa)++[.int .i64 4,.int .i64 0]:=by rw[← he5];simp[Zaa]
   have Hhm9:=qh hm9;have Hsf9:=qh hsf9;have Hhme:=qh hme;have Hhsuf:=qh hsuf;have Hhdr:=qh hdr;clear hdr;have Hhlen5:=qh hlen5;clear hlen5;have Hhcel5:=qh hcel5;clear hcel5;have Hhx9:=qh hx9;clear hx9;have Hhe5:=qh he5;clear he5;have Hhyy:=qh hyy;clear hyy;clear hC9 hm9 hme hsf9 hsuf
   go_wp2_with (first
    | (go_at_call 41;refine(HC9.out _).mono ?_;rintro e w2 ⟨a9,c9,rfl,hS9⟩;have HS9:=qh (show St w w2 [Ent.row 62 2 (.slice a es.length c) es.length (es.flatMap Zaa),Ent.row 62 2 (.slice a9 e9.length c9) e9.length (e9.flatMap Zaa)] from HS4.out.cat hS9);clear hS9)
    | (at_builtin;refine Zal _ rfl _ _ _ rfl _ 62 j0 PZ 2 16 Tryz.underlying28 hj hy0 hy1 hy2 rfl (by omega) _ es.length _ rfl (HS9.out.row 0 rfl) _ e9.length (e9.flatMap Zaa) rfl ((Zab (HS9.out.row 1 rfl)).sl (by omega) |>.mono (Nat.zero_le _)) Zds (by unfold maxLen;omega) (by omega) HS9.out.size ?_;intro a6 c6 w6 hown6 hgrow6 hat6;have hS6:=(HS9.out.appS 0 rfl hown6 hgrow6 hat6).pick [0] (by decide);have hS7:St w _ [Ent.row 62 2 (.slice a6 (es.length+e9.length) c6) (es.length+e9.length) (es.flatMap Zaa++e9.flatMap Zaa),Ent.row 62 2 (.slice (some ⟨w6.heap.size,0,none⟩) 1 1) 1 [.int .i64 4,.int .i64 0]]:=(hS6.alloc w6.heap.size rfl #[.int .i64 4,.int .i64 0] 62).boxrow 1 1 2 [.int .i64 4,.int .i64 0] rfl rfl (by unfold maxLen;omega);have HS7:=qh hS7;clear hown6 hgrow6 hat6 hS6 hS7)
    | (at_builtin;refine Zal _ rfl _ _ _ rfl _ 62 j0 PZ 2 16 Tryz.underlying28 hj hy0 hy1 hy2 rfl (by omega) _ (es.length+e9.length) _ rfl (HS7.out.row 0 rfl) _ 1 [.int .i64 4,.int .i64 0] rfl ((Zab (HS7.out.row 1 rfl)).sl (by omega) |>.mono (Nat.zero_le _)) (by intro u hu;simp at hu;rcases hu with rfl|rfl<;>rfl) (by unfold maxLen;omega) (by omega) HS7.out.size ?_;intro a7 c7 w7 hown7 hgrow7 hat7;have HS8:=qh ((HS7.out.appS 0 rfl hown7 hgrow7 hat7).pick [0] (by decide));clear hown7 hgrow7 hat7))
   have hm9:=Hhm9.out;have hme:=Hhme.out;have hlen5:=Hhlen5.out;have hyy:=Hhyy.out;have HS10:St w w7 [Ent.row 62 2 (.slice a7 e5.length c7) e5.length (e5.flatMap Zaa)]:=by rw[hlen5,Hhcel5.out];exact HS8.out
   rw[← hlen5];cases fl9 with
   | true =>
    have hy2:y=(e5,q9,true):=by rw[← hyy];cases kk<;>rfl
    go_roundw
    case rel=>exact .inl ⟨a7,c7,e5,rfl,rfl,by rw[hy2],by rw[hy2],HS10⟩
    case measure =>show enM S (.int .i64 (-1))<enM S (.int .i64 (j:Int));rw[Zkc,ZcB];omega
   | false =>
    obtain⟨-,-,b3⟩:=hm9;obtain⟨b4,b5⟩:=b3 rfl;obtain⟨a1,a2,a3⟩:=hme;obtain⟨a4,a5⟩:=a3 rfl;simp only[List.length_cons] at b4 b5 a1 a2 a4 a5;have hmeas:meas r.length (e5,q9,false):=⟨by simp only;omega,by simp only;omega,fun _=>by simp only;omega⟩;have hq9l:=Hsf9.out.length_le;go_roundw
    case rel=>exact .inr ⟨a7,c7,e5,q9,kk,rfl,rfl,⟨hyy,by simp only[List.length_cons] at hkk;omega⟩,Hsf9.out,hmeas,HS10⟩
    case measure =>show enM S (.int .i64 ((S.length-q9.length:Nat):Int))<enM S (.int .i64 (j:Int));rw[ZcB,ZcB];omega
theorem Zqc (n:Nat) (hC:Zkm n) (S:List Nat) (i:Nat) (w:World) (hn:fuP 4 (S.drop i)≤n+1) (hl:S.length≤120) (ht:isT S) (hi:i≤S.length) :
  Calls Tryz.prog 41 #[.string (txB S),.int .i64 (i:Int),.int .i64 3] w fun e w'=>RRs S (rdP jS (n+1) 4 (S.drop i)) w e w':=by
 have hs:=ZaG S;have Hht:=qh ht;obtain⟨j0,hj,hy0,hy1,hy2⟩:=info_parts Tryz.infoPart;obtain⟨r,hr⟩:=eJ (S.drop i);have hrs:r <:+ S:=by rw[← hr];exact List.drop_suffix _ _
 have hrl:r.length≤120:=by have:=hrs.length_le;omega
 rw[hr] at hn ⊢;have HC:=qh hC
 have hgo:rdP jS (n+1) 4 r=rdP jS n 5 r→(r=[]∨∃ c r1,r=c::r1∧c≠33)→Calls Tryz.prog 41 #[.string (txB S),.int .i64 (i:Int),.int .i64 3] w fun e w'=>RRs S (rdP jS (n+1) 4 r) w e w':=by
  intro hrd hcase;rw[hrd];have hC1:=hC 5 S i w (by omega) (by omega) (by rw[hr];unfold fuP at hn ⊢;omega) hl ht hi;rw[hr] at hC1;have hsf:=(ZdT jS n 5 r).trans hrs;obtain⟨x,hx⟩:=eJ (rdP jS n 5 r);rw[hx] at hC1 hsf ⊢;obtain⟨es,q,fl⟩:=x;have HC1:=qh (show Calls Tryz.prog 41 #[.string (txB S),.int .i64 (i:Int),.int .i64 4] w fun e w'=>RRs S (es,q,fl) w e w' from hC1);have Hsf:=qh hsf;have Hhi:=qh hi
  have hcase2:i=S.length∨∃ c,i<S.length∧S.getD i 0=c∧c≠33:=by
   rcases hcase with h|⟨c,r1,h,hne⟩
   ·exact .inl (ZkW (hr.trans h) hi)
   obtain⟨q1,q2,-,-⟩:=Zcb (hr.trans h);exact .inr ⟨c,q1,q2,hne⟩
  have Hhrd:=qh hrd;clear hrd;have Hhx:=qh hx;clear hx;have Hhr:=qh hr;clear hr;replace hrs:=qh hrs;clear hC1 hsf hcase hn hi hC;have hloop:∀ (u:World) (a:Option Addr) (c:Nat),St w u [Ent.row 62 2 (.slice a es.length c) es.length (es.flatMap Zaa)]→RRs S (es,q,fl) w (.returned (.tuple #[.slice a es.length c,.int .i64 (endI S (es,q,fl))])) u:=fun u a c h=>⟨a,c,rfl,h⟩
  have Hloop:=qh hloop;clear hloop
  have hrest:∀ P:Prop,(∀ c,i<S.length→S.getD i 0=c→c≠33→P)→(i=S.length→P)→P:=by
   intro P h1 h2;rcases hcase2 with h|⟨c,q1,q2,q3⟩
   ·exact h2 h
   exact h1 c q1 q2 q3
  clear hcase2;refine hrest _ ?_ ?_
  ·intro c hi1 hc h33;have hiI:(i:Int)<(S.length:Int):=by omega
   have hc256:c<256:=by rw[← hc];exact ht _ (Zcz hi1)
   have hix:=fun u=>ZbE (l:=S) (i:=i) hi1 Hht.out u
   rw[hc] at hix;have n33:((c:Int)=33)=False:=by simp;omega
   have Hhc:=qh hc;clear hc;clear hrest
   go_enter Tryz.func41, Tryz.ntmps41
   go_wp2_with (go_at_call 41;refine(HC1.out).mono ?_;rintro e w1 ⟨a1,c1,rfl,hS1⟩;replace hS1:=qh hS1)
   go_loopw [12,13] (fun ve vi wr=>∃ (a:Option Addr) (c:Nat),ve = .slice a es.length c∧vi = .int .i64 (endI S (es,q,fl))∧St w wr [Ent.row 62 2 (.slice a es.length c) es.length (es.flatMap Zaa)]) (fun _ _ _=>0)
   case atStart=>exact⟨a1,c1,rfl,rfl,hS1.out⟩
   case round =>
    obtain⟨a2,c2,rfl,rfl,hS⟩:=hrel;have HS2:=qh (Hloop.out _ _ _ hS);clear hS;cases fl with
    | true =>simp only[show endI S (es,q,true) = -1 from rfl];go_wp2;refine bodyPost_ret (v:=.tuple #[.slice a2 es.length c2,.int .i64 (-1)]) (by simp[results,Tryz.results41,go_sem]) rfl ?_;exact HS2.out
    | false =>
     obtain⟨j,hj⟩:=eJ (S.length-q.length);have he:endI S (es,q,false)=(j:Int):=by unfold endI;simp only[Bool.false_eq_true,if_false,hj]
     rw[he] at HS2;simp only[he];have hj0:(0:Int)≤(j:Int):=by omega
     by_cases hlt:j<S.length
     ·have hltI:(j:Int)<(S.length:Int):=by omega
      have Hhj:=qh hj;clear hj;have Hhe:=qh he;clear he;go_wp2;refine bodyPost_ret (v:=.tuple #[.slice a2 es.length c2,.int .i64 (j:Int)]) (by simp[results,Tryz.results41,go_sem]) rfl ?_;exact HS2.out
     have hltI:(S.length:Int)≤(j:Int):=by omega
     have Hhj:=qh hj;clear hj;have Hhe:=qh he;clear he;clear hlt;go_wp2;refine bodyPost_ret (v:=.tuple #[.slice a2 es.length c2,.int .i64 (j:Int)]) (by simp[results,Tryz.results41,go_sem]) rfl ?_;exact HS2.out
  intro hil;have hiI:(S.length:Int)≤(i:Int):=by omega
  have Hhil:=qh hil;clear hil;clear hrest
  go_enter Tryz.func41, Tryz.ntmps41
  go_wp2_with (go_at_call 41;refine(HC1.out).mono ?_;rintro e w1 ⟨a1,c1,rfl,hS1⟩;replace hS1:=qh hS1)
  go_loopw [12,13] (fun ve vi wr=>∃ (a:Option Addr) (c:Nat),ve = .slice a es.length c∧vi = .int .i64 (endI S (es,q,fl))∧St w wr [Ent.row 62 2 (.slice a es.length c) es.length (es.flatMap Zaa)]) (fun _ _ _=>0)
  case atStart=>exact⟨a1,c1,rfl,rfl,hS1.out⟩
  case round =>
   obtain⟨a2,c2,rfl,rfl,hS⟩:=hrel;have HS2:=qh (Hloop.out _ _ _ hS);clear hS;cases fl with
   | true =>simp only[show endI S (es,q,true) = -1 from rfl];go_wp2;refine bodyPost_ret (v:=.tuple #[.slice a2 es.length c2,.int .i64 (-1)]) (by simp[results,Tryz.results41,go_sem]) rfl ?_;exact HS2.out
   | false =>
    obtain⟨j,hj⟩:=eJ (S.length-q.length);have he:endI S (es,q,false)=(j:Int):=by unfold endI;simp only[Bool.false_eq_true,if_false,hj]
    rw[he] at HS2;simp only[he];have hj0:(0:Int)≤(j:Int):=by omega
    by_cases hlt:j<S.length
    ·have hltI:(j:Int)<(S.length:Int):=by omega
     have Hhj:=qh hj;clear hj;have Hhe:=qh he;clear he;go_wp2;refine bodyPost_ret (v:=.tuple #[.slice a2 es.length c2,.int .i64 (j:Int)]) (by simp[results,Tryz.results41,go_sem]) rfl ?_;exact HS2.out
    have hltI:(S.length:Int)≤(j:Int):=by omega
    have Hhj:=qh hj;clear hj;have Hhe:=qh he;clear he;clear hlt;go_wp2;refine bodyPost_ret (v:=.tuple #[.slice a2 es.length c2,.int .i64 (j:Int)]) (by simp[results,Tryz.results41,go_sem]) rfl ?_;exact HS2.out
 cases r with
 | nil=>exact hgo rfl (.inl rfl)
 | cons c r1 =>
  by_cases h33:c=33
  ·subst h33;have hrd:rdP jS (n+1) 4 (33::r1)=((rdP jS n 4 r1).1++[(7,0)],(rdP jS n 4 r1).2):=rfl;rw[hrd];clear hgo;obtain⟨hi1,hc,hd1,hlen⟩:=Zcb hr;have hm:=Zc4 jS n 4 r1;have hC1:=hC 4 S (i+1) w (by omega) (by omega) (by rw[hd1];unfold fuP at hn ⊢;simp at hn;omega) hl ht (by omega);rw[hd1] at hC1;obtain⟨x,hx⟩:=eJ (rdP jS n 4 r1);rw[hx] at hC1 hm ⊢;obtain⟨es,q,fl⟩:=x;have hel:es.length≤1000:=by have:=hm.2.1;simp only at this;omega
   have HC1:=qh (show Calls Tryz.prog 41 #[.string (txB S),.int .i64 ((i:Int)+1),.int .i64 3] w fun e w'=>RRs S (es,q,fl) w e w' from hC1);have hiI:(i:Int)<(S.length:Int):=by omega
   have hw1:IntKind.i64.wrap ((i:Int)+1)=(i:Int)+1:=IntWalk.i64_in _ (by omega);have hix:=fun u=>ZbE (l:=S) (i:=i) hi1 Hht.out u
   rw[hc] at hix;obtain⟨E,hE⟩:=eJ (endI S (es,q,fl));have Hhrd:=qh hrd;clear hrd;have Hhx:=qh hx;clear hx;have Hhr:=qh hr;clear hr;have Hhc:=qh hc;clear hc;have Hhd1:=qh hd1;clear hd1;have Hhlen:=qh hlen;clear hlen;replace hrs:=qh hrs;clear hC1 hm hn hC
   go_enter Tryz.func41, Tryz.ntmps41
   go_wp2_with (first
    | (go_at_call 41;refine(HC1.out).mono ?_;rintro e w1 ⟨a1,c1,rfl,hS1⟩;simp only[hE];have HS7:=qh (show St w _ [Ent.row 62 2 (.slice a1 es.length c1) es.length (es.flatMap Zaa),Ent.row 62 2 (.slice (some ⟨w1.heap.size,0,none⟩) 1 1) 1 [.int .i64 7,.int .i64 0]] from(hS1.alloc w1.heap.size rfl #[.int .i64 7,.int .i64 0] 62).boxrow 1 1 2 [.int .i64 7,.int .i64 0] rfl rfl (by unfold maxLen;omega));clear hS1)
    | (at_builtin;refine Zal _ rfl _ _ _ rfl _ 62 j0 PZ 2 16 Tryz.underlying28 hj hy0 hy1 hy2 rfl (by omega) _ es.length _ rfl (HS7.out.row 0 rfl) _ 1 [.int .i64 7,.int .i64 0] rfl ((Zab (HS7.out.row 1 rfl)).sl (by omega) |>.mono (Nat.zero_le _)) (by intro u hu;simp at hu;rcases hu with rfl|rfl<;>rfl) (by unfold maxLen;omega) (by omega) HS7.out.size ?_;intro a7 c7 w7 hown7 hgrow7 hat7;have HS8:=qh ((HS7.out.appS 0 rfl hown7 hgrow7 hat7).pick [0] (by decide));clear hown7 hgrow7 hat7))
   refine bodyPost_ret (v:=.tuple #[.slice a7 (es.length+1) c7,.int .i64 E]) (by simp[results,Tryz.results41,go_sem]) rfl ?_;have hl5:(es++[((7:Int),(0:Int))]).length=es.length+1:=by simp
   refine⟨a7,c7,?_,?_⟩
   ·show _=Ending.returned (.tuple #[.slice a7 (es++[(7,0)]).length c7,.int .i64 (endI S (es++[(7,0)],q,fl))]);rw[hl5,← hE];rfl
   show St w w7 [Ent.row 62 2 (.slice a7 (es++[(7,0)]).length c7) (es++[(7,0)]).length ((es++[(7,0)]).flatMap Zaa)];rw[hl5,List.flatMap_append];exact HS8.out
  exact hgo (if_neg h33) (.inr ⟨c,r1,rfl,h33⟩)
theorem Zqb (n:Nat) (hC:Zkm n) (S:List Nat) (i:Nat) (w:World) (hn:fuP 5 (S.drop i)≤n+1) (hl:S.length≤120) (ht:isT S) (hi:i≤S.length) :
  Calls Tryz.prog 41 #[.string (txB S),.int .i64 (i:Int),.int .i64 4] w fun e w'=>RRs S (rdP jS (n+1) 5 (S.drop i)) w e w':=by
 have hs:=ZaG S;have Hht:=qh ht;obtain⟨j0,hj,hy0,hy1,hy2⟩:=info_parts Tryz.infoPart;obtain⟨r,hr⟩:=eJ (S.drop i);have hrs:r <:+ S:=by rw[← hr];exact List.drop_suffix _ _
 have hrl:r.length≤120:=by have:=hrs.length_le;omega
 rw[hr] at hn ⊢;have hrd:rdP jS (n+1) 5 r=Zg0 (rdP jS n 6 r):=rfl;rw[hrd];have hm:=Zc4 jS n 6 r;have hsf:=(ZdT jS n 6 r).trans hrs;have hC1:=hC 6 S i w (by omega) (by omega) (by rw[hr];unfold fuP at hn ⊢;omega) hl ht hi;rw[hr] at hC1;obtain⟨x,hx⟩:=eJ (rdP jS n 6 r);rw[hx] at hC1 hm hsf ⊢;obtain⟨es0,q0,fl0⟩:=x;obtain⟨y,hy⟩:=eJ (Zg0 (es0,q0,fl0));rw[hy];have HC1:=qh (show Calls Tryz.prog 41 #[.string (txB S),.int .i64 (i:Int),.int .i64 5] w fun e w'=>RRs S (es0,q0,fl0) w e w' from hC1);have Hhm:=qh hm;have Hsf:=qh hsf;replace hrd:=qh hrd;have Hhx:=qh hx;clear hx;have Hhy:=qh hy;clear hy;replace hr:=qh hr;have Hhrs:=qh hrs;clear hrs;clear hC1 hm hsf hn hi hC
 go_enter Tryz.func41, Tryz.ntmps41
 go_wp2_with (go_at_call 41;refine(HC1.out).mono ?_;rintro e w1 ⟨a1,c1,rfl,hS1⟩;replace hS1:=qh hS1)
 go_loopw [12,13] (fun ve vi wr=>(∃ (a:Option Addr) (c:Nat) (es:List (Int × Int)),ve = .slice a es.length c∧vi = .int .i64 (-1)∧y.1=es∧y.2.2=true∧St w wr [Ent.row 62 2 (.slice a es.length c) es.length (es.flatMap Zaa)]) ∨
   (∃ (a:Option Addr) (c:Nat) (es:List (Int × Int)) (r':List Nat),ve = .slice a es.length c∧vi = .int .i64 ((S.length-r'.length:Nat):Int)∧(y=((Za6 es r').1,(Za6 es r').2,false))∧r' <:+ S∧meas r.length (es,r',false)∧St w wr [Ent.row 62 2 (.slice a es.length c) es.length (es.flatMap Zaa)])) (fun _ vi _=>enM S vi)
 case atStart =>
  cases fl0 with
  | true =>have hy2:y=(es0,q0,true):=Hhy.out.symm;exact .inl ⟨a1,c1,es0,rfl,rfl,by rw[hy2],by rw[hy2],hS1.out⟩
  | false =>obtain⟨m1,m2,m3⟩:=Hhm.out;obtain⟨m4,m5⟩:=m3 rfl;simp only at m1 m2 m4 m5;exact .inr ⟨a1,c1,es0,q0,rfl,rfl,Hhy.out.symm,Hsf.out,⟨m1,m2,fun _=>⟨m4,m5⟩⟩,hS1.out⟩
 case round =>
  rcases hrel with⟨a,c,es,rfl,rfl,hy1,hy2,hS⟩|⟨a,c,es,r',rfl,rfl,hyy,hsuf,hme,hS⟩
  ·have HS4:=qh hS;clear hS;go_wp2;subst hy1;refine bodyPost_ret (v:=.tuple #[.slice a y.1.length c,.int .i64 (-1)]) (by simp[results,Tryz.results41,go_sem]) rfl ?_;exact⟨a,c,by rw[show endI S y = -1 by unfold endI;rw[if_pos hy2]],HS4.out⟩
  cases r' with
  | nil =>
   have hyy2:y=(es,[],false):=hyy;have Hhyy:=qh hyy2;have HS4:=qh hS;have hle:(S.length:Int)≤((S.length-0:Nat):Int):=by omega
   clear hyy hyy2 hme hsuf;clear hS;simp only[List.length_nil,Nat.sub_zero];go_wp2;refine bodyPost_ret (v:=.tuple #[.slice a es.length c,.int .i64 (S.length:Int)]) (by simp[results,Tryz.results41,go_sem]) rfl ?_;rw[Hhyy.out];exact⟨a,c,rfl,HS4.out⟩
  | cons d r5 =>
   have HS4:=qh hS;obtain⟨hq1,hq2⟩:=ZjE hsuf;obtain⟨hj1,hjc,hjd,hjl⟩:=Zcb hq1;obtain⟨j,hjj⟩:=eJ (S.length-(d::r5).length);rw[hjj] at hj1 hjc hjd hjl;rw[hjj];have hjI:(j:Int)<(S.length:Int):=by omega
   have hj0:(0:Int)≤(j:Int):=by omega
   have hw2:IntKind.i64.wrap ((j:Int)+1)=(j:Int)+1:=IntWalk.i64_in _ (by omega);have hd256:d<256:=by rw[← hjc];exact Hht.out _ (Zcz hj1)
   have hjx:=fun u=>ZbE (l:=S) (i:=j) hj1 Hht.out u
   rw[hjc] at hjx;have hel:es.length≤1000:=by have:=hme.2.1;simp only at this;omega
   have hjl2:S.length=j+1+r5.length:=hjl;have Hhjj:=qh hjj;clear hjj;have Hhjc:=qh hjc;clear hjc;have Hhjl:=qh hjl;clear hjl;have Hhq1:=qh hq1;clear hq1;clear hS;by_cases hds:d=42
   ·subst hds;have hyy2:y=((Za6 (es++[(8,0)]) r5).1,(Za6 (es++[(8,0)]) r5).2,false):=hyy;obtain⟨e5,he5⟩:=eJ (es++[((8:Int),(0:Int))]);rw[he5] at hyy2;have hlen5:e5.length=es.length+1:=by rw[← he5];simp
    have hcel5:e5.flatMap Zaa=es.flatMap Zaa++[.int .i64 8,.int .i64 0]:=by rw[← he5];simp[Zaa]
    have Hhyy:=qh hyy2;have Hhme:=qh hme;have Hhsuf:=qh hsuf;have HS7:=qh (show St w _ [Ent.row 62 2 (.slice a es.length c) es.length (es.flatMap Zaa),Ent.row 62 2 (.slice (some ⟨wr.heap.size,0,none⟩) 1 1) 1 [.int .i64 8,.int .i64 0]] from(HS4.out.alloc wr.heap.size rfl #[.int .i64 8,.int .i64 0] 62).boxrow 1 1 2 [.int .i64 8,.int .i64 0] rfl rfl (by unfold maxLen;omega));have Hhe5:=qh he5;clear he5;have Hhlen5:=qh hlen5;clear hlen5;have Hhcel5:=qh hcel5;clear hcel5;clear hyy hyy2 hme hsuf
    go_wp2_with (first
     | (at_builtin;refine Zal _ rfl _ _ _ rfl _ 62 j0 PZ 2 16 Tryz.underlying28 hj hy0 hy1 hy2 rfl (by omega) _ es.length _ rfl (HS7.out.row 0 rfl) _ 1 [.int .i64 8,.int .i64 0] rfl ((Zab (HS7.out.row 1 rfl)).sl (by omega) |>.mono (Nat.zero_le _)) (by intro u hu;simp at hu;rcases hu with rfl|rfl<;>rfl) (by unfold maxLen;omega) (by omega) HS7.out.size ?_;intro a7 c7 w7 hown7 hgrow7 hat7;have HS8:=qh ((HS7.out.appS 0 rfl hown7 hgrow7 hat7).pick [0] (by decide));clear hown7 hgrow7 hat7))
    have hlen5:=Hhlen5.out;have HS10:St w w7 [Ent.row 62 2 (.slice a7 e5.length c7) e5.length (e5.flatMap Zaa)]:=by rw[hlen5,Hhcel5.out];exact HS8.out
    rw[← hlen5];have hme:=Hhme.out;obtain⟨a1,a2,a3⟩:=hme;obtain⟨a4,a5⟩:=a3 rfl;simp only[List.length_cons] at a1 a2 a4 a5;have hmeas:meas r.length (e5,r5,false):=⟨by simp only;omega,by simp only;omega,fun _=>by simp only;omega⟩;have hjn:((S.length-r5.length:Nat):Int)=(j:Int)+1:=by omega
    go_roundw
    case rel=>exact .inr ⟨a7,c7,e5,r5,rfl,by rw[hjn],Hhyy.out,(List.suffix_cons 42 r5).trans Hhsuf.out,hmeas,HS10⟩
    case measure =>show enM S (.int .i64 ((j:Int)+1))<enM S (.int .i64 (j:Int));rw[← hjn,ZcB,ZcB];omega
   have hyy2:y=(es,d::r5,false):=by rw[hyy];have:Za6 es (d::r5)=(es,d::r5):=if_neg hds;rw[this]
   have n4:((d:Int)=42)=False:=by simp;omega
   have Hhyy:=qh hyy2;clear hyy hyy2 hme hsuf;go_wp2;refine bodyPost_ret (v:=.tuple #[.slice a es.length c,.int .i64 (j:Int)]) (by simp[results,Tryz.results41,go_sem]) rfl ?_;rw[Hhyy.out];exact⟨a,c,by rw[show endI S (es,d::r5,false)=(j:Int) by unfold endI;simp only[Bool.false_eq_true,if_false];rw[Hhjj.out]],HS4.out⟩
theorem ZiU:∀ n,Zkm n
 | 0=>fun l S i w _ h6 hn=>by unfold fuP at hn;omega
 | n+1=>fun l S i w h1 h6 hn hl ht hi=>by
  have hC:=ZiU n;obtain rfl|rfl|rfl|rfl|rfl|rfl:l=1∨l=2∨l=3∨l=4∨l=5∨l=6:=by omega
  ·exact Zqf n hC S i w hn hl ht hi
  ·exact Zqe n hC S i w hn hl ht hi
  ·exact Zqd n hC S i w hn hl ht hi
  ·exact Zqc n hC S i w hn hl ht hi
  ·exact Zqb n hC S i w hn hl ht hi
  exact Zqa n hC S i w hn hl ht hi
def RReS (s:List Nat) (w:World) (e:Ending) (w':World):Prop:=(Zch s=none∧∃ a c,e = .returned (.tuple #[.slice a 0 c,.bool false])∧St w w' [Ent.row 62 2 (.slice a 0 c) 0 []]) ∨
 (∃ es a c,Zch s=some es∧e = .returned (.tuple #[.slice a es.length c,.bool true])∧St w w' [Ent.row 62 2 (.slice a es.length c) es.length (es.flatMap Zaa)])
theorem Zfo (s:List Nat) (w:World) (ht:isT s):Calls Tryz.prog 17 #[.string (txB s)] w fun e w'=>RReS s w e w':=by
 have hs:=ZaG s;by_cases hl:120<s.length
 ·have hl2:(120:Int)<s.length:=by omega
  have hno:=Zhp hl;have HN:=qh (Zfd (St.start w));have Hhno:=qh hno;clear hno
  go_enter Tryz.func17, Tryz.ntmps17
  go_wp2;refine bodyPost_ret (v:=.tuple #[.slice (some ⟨w.heap.size,0,none⟩) 0 0,.bool false]) (by simp[results,Tryz.results17,go_sem]) rfl ?_;exact .inl ⟨Hhno.out,_,_,rfl,HN.out⟩
 have hl2:(s.length:Int)≤120:=by omega
 have hr:=Zkx ZpW (Nat.le_refl (fuP 1 s)) (show s.length≤120 by omega);have hL:=ZiU (fuP 1 s) 1 s 0 w (by omega) (by omega) (by rw[List.drop_zero];exact Nat.le_refl _) (by omega) ht (by omega);rw[List.drop_zero] at hL;have hm:=Zc4 jS (fuP 1 s) 1 s;have hne:s=[]→(rdP jS (fuP 1 s) 1 s).2.2=true:=fun h=>by subst h;exact Zmw jS _ 1 (by omega) (by omega)
 obtain⟨x,hx⟩:=eJ (rdP jS (fuP 1 s) 1 s);rw[hx] at hL hr hm hne;obtain⟨es,q,fl⟩:=x;have HL:=qh (show Calls Tryz.prog 41 #[.string (txB s),.int .i64 0,.int .i64 0] w fun e w'=>RRs s (es,q,fl) w e w' from hL);have hel:es.length≤1000:=by have:=hm.2.1;simp only at this;omega
 have hql:q.length≤s.length:=hm.1;have Hht:=qh ht;have Hr:=qh hr;replace hx:=qh hx;clear hL hr hm hl;cases fl with
 | true =>
  have hno:Zch s=none:=by rw[Hr.out];exact if_neg (fun h=>by cases h.1)
  have he:endI s (es,q,true) = -1:=rfl;have Hhno:=qh hno;clear hno;clear hne
  go_enter Tryz.func17, Tryz.ntmps17
  go_wp2_with (go_at_call 41;refine(HL.out).mono ?_;rintro e w1 ⟨a1,c1,rfl,hS1⟩;have HN1:=qh ((Zfd hS1).pick [1] (by decide));simp only[he];clear hS1);refine bodyPost_ret (v:=.tuple #[.slice (some ⟨w1.heap.size,0,none⟩) 0 0,.bool false]) (by simp[results,Tryz.results17,go_sem]) rfl ?_;exact .inl ⟨Hhno.out,_,_,rfl,HN1.out⟩
 | false =>
  have hse:s≠[]:=fun h=>by cases hne h
  cases q with
  | cons d q =>
   have hno:Zch s=none:=by rw[Hr.out];exact if_neg (fun h=>by cases h.2.1)
   obtain⟨j,hj⟩:=eJ (s.length-(d::q).length);have he:endI s (es,d::q,false)=(j:Int):=by unfold endI;simp only[Bool.false_eq_true,if_false,hj]
   have hjn:((j:Int) != (s.length:Int))=true:=by simp at hql hj ⊢;omega
   have Hhno:=qh hno;clear hno;replace hj:=qh hj;clear hne hse hql
   go_enter Tryz.func17, Tryz.ntmps17
   go_wp2_with (go_at_call 41;refine(HL.out).mono ?_;rintro e w1 ⟨a1,c1,rfl,hS1⟩;have HN1:=qh ((Zfd hS1).pick [1] (by decide));simp only[he];clear hS1);refine bodyPost_ret (v:=.tuple #[.slice (some ⟨w1.heap.size,0,none⟩) 0 0,.bool false]) (by simp[results,Tryz.results17,go_sem]) rfl ?_;exact .inl ⟨Hhno.out,_,_,rfl,HN1.out⟩
  | nil =>
   have he:endI s (es,[],false)=(s.length:Int):=rfl;have hem:=ZdF s;rw[show s.isEmpty=false by cases s with|nil=>exact absurd rfl hse|cons=>rfl] at hem;by_cases hq:ZdQ es=s
   ·have hyes:Zch s=some es:=by rw[Hr.out];exact if_pos ⟨rfl,rfl,hq⟩
    have HX:=qh (fun (v:Value) (u:World) (hv:Pairs 0 u v es)=>by have:=Zbt es v u hel hv;rw[hq] at this;exact this);have Hhyes:=qh hyes;clear hyes;clear hq hne hse
    go_enter Tryz.func17, Tryz.ntmps17
    go_wp2_with (first
     | (go_at_call 41;refine(HL.out).mono ?_;rintro e w1 ⟨a1,c1,rfl,hS1⟩;have HS1:=qh hS1;simp only[he];clear hS1)
     | (go_at_call 18;refine(HX.out _ _ (Zad (HS1.out.row 0 rfl))).mono ?_;rintro e w2 ⟨rfl,hb2⟩;have HS2:=qh (HS1.out.call hb2);clear hb2))
    refine bodyPost_ret (v:=.tuple #[.slice a1 es.length c1,.bool true]) (by simp[results,Tryz.results17,go_sem]) rfl ?_;exact .inr ⟨es,a1,c1,Hhyes.out,rfl,HS2.out⟩
   have hno:Zch s=none:=by rw[Hr.out];exact if_neg (fun h=>hq h.2.2)
   have hne2:=Zl4 (ZiG es) Hht.out hq;have HX:=qh (fun (v:Value) (u:World) (hv:Pairs 0 u v es)=>Zbt es v u hel hv);have Hhno:=qh hno;clear hno;clear hq hne hse
   go_enter Tryz.func17, Tryz.ntmps17
   go_wp2_with (first
    | (go_at_call 41;refine(HL.out).mono ?_;rintro e w1 ⟨a1,c1,rfl,hS1⟩;have HS1:=qh hS1;simp only[he];clear hS1)
    | (go_at_call 18;refine(HX.out _ _ (Zad (HS1.out.row 0 rfl))).mono ?_;rintro e w2 ⟨rfl,hb2⟩;have HS2:=qh (HS1.out.call hb2);have HN2:=qh ((Zfd HS2.out).pick [1] (by decide));clear hb2))
   refine bodyPost_ret (v:=.tuple #[.slice (some ⟨w2.heap.size,0,none⟩) 0 0,.bool false]) (by simp[results,Tryz.results17,go_sem]) rfl ?_;exact .inl ⟨Hhno.out,_,_,rfl,HN2.out⟩
theorem Zn8 {s:List Nat} {es:List (Int × Int)} (h:Zch s=some es):exOk es=true:=by obtain⟨t,rfl,-,h60,-⟩:=Zho h;exact Zau t h60
def Ent.know (F:Ent) (R:World→Prop):Ent:=⟨F.foot,fun w=>F.holds w∧∀ u,F.holds u→R u,fun a b h hk=>⟨F.stable a b h.1 hk,h.2⟩⟩
theorem St.know {w0 w:World} {L:List Ent} (h:St w0 w L) (k:Nat) {F:Ent} {R:World→Prop} (hk:L[k]? = some (Ent.know F R)):R w:=by have h1:=(h.has k _ hk).1;exact h1.2 w h1.1
theorem Zap {L:List Ent} {u:World} (h:(Ent.all L).holds u) (k:Nat) {F:Ent} {R:World→Prop} (hk:L[k]? = some (Ent.know F R)):R u:=by have h1:=h _ (List.mem_of_getElem? hk);exact h1.2 u h1.1
theorem ZbZ {L:List Ent} {u:World} (h:(Ent.all L).holds u) (k:Nat) {e size n:Nat} {v:Value} {cs:List Value} (hk:L[k]? = some (Ent.row e size v n cs)):u.ownsRow 0 e size v n cs:=h _ (List.mem_of_getElem? hk)
theorem St.knowAll {w0 w:World} {A R:List Ent} (h:St w0 w (A++R)) {P:World→Prop} (hP:∀ u,(Ent.all R).holds u→P u):St w0 w (A++[Ent.know (Ent.all R) P]):=by
 have h1:=(St.pack (A:=A) h).same A.length (x:=Ent.all R) (by simp) (Ent.know (Ent.all R) P) (fun h2=>⟨h2,hP⟩) (fun _ hk=>hk)
 rwa [show(A++[Ent.all R]).set A.length (Ent.know (Ent.all R) P)=A++[Ent.know (Ent.all R) P] by simp] at h1
theorem St.know0 {w0 w:World} {L:List Ent} (h:St w0 w L) {P:World→Prop} (hP:∀ u,P u):St w0 w (L++[Ent.know Ent.nil P]) :=
 h.add (Below.refl _ _) (Ent.know Ent.nil P) ⟨trivial,fun u _=>hP u⟩ fun _ hk=>hk.elim
theorem St.knowMore {w0 w:World} {L:List Ent} (h:St w0 w L) (k:Nat) {F:Ent} {R P:World→Prop} (hk:L[k]? = some (Ent.know F R)) (hP:∀ u,R u→P u):St w0 w (L.set k (Ent.know F P)) :=
 h.same k hk (Ent.know F P) (fun h=>⟨h.1,fun u hu=>hP u (h.2 u hu)⟩) fun _ hf=>hf
end Go.Proofs.YtncekbbhgipdlaaGreat
namespace Go.Proofs.YtncekbbhgipdlaaGreat
def StarL (L:List Nat→Prop) (w:List Nat):Prop:=∃ ws:List (List Nat),w=ws.flatten∧∀ u∈ws,L u
theorem StarL.nil {L:List Nat→Prop}:StarL L []:=⟨[],rfl,by simp⟩
theorem StarL.cons {L:List Nat→Prop} {u w:List Nat} (h:L u) (h':StarL L w):StarL L (u++w):=by
 obtain⟨ws,rfl,hw⟩:=h'
 exact⟨u::ws,rfl,fun x hx=>by
  rcases List.mem_cons.1 hx with rfl|hx
  ·exact h
  exact hw x hx⟩
def memE:Ex→List Nat→Prop
 | .zero,_=>False
 | .one,w=>w=[]
 | .ltr c,w=>w=[c.val]
 | .join a b,w=>∃ u v,w=u++v∧memE a u∧memE b v
 | .alt a b,w=>memE a w∨memE b w
 | .both a b,w=>memE a w∧memE b w
 | .neg a,w=>¬ memE a w
 | .star a,w=>StarL (memE a) w
end Go.Proofs.YtncekbbhgipdlaaGreat
namespace Go.Proofs.YtncekbbhgipdlaaGreat
open Go.RowKit
def Zer (x y:Ex):Ex:=if x = .zero∨y = .zero then .zero else if x = .one then y else if y = .one then x else .join x y
def Zfw (x y:Ex):Ex:=if x = .zero∨x=y then y else if y = .zero then x else .alt x y
def ZlV (x y:Ex):Ex:=if x = .zero∨y = .zero then .zero else if x=y then x else .both x y
def negS (x:Ex):Ex:=match x with
 | .neg a=>a
 | x => .neg x
def Zed (x:Ex):Ex:=if x = .zero∨x = .one then .one else match x with
 | .star a => .star a
 | x => .star x
def simE:Ex→Ex
 | .join a b=>Zer (simE a) (simE b)
 | .alt a b=>Zfw (simE a) (simE b)
 | .both a b=>ZlV (simE a) (simE b)
 | .neg a=>negS (simE a)
 | .star a=>Zed (simE a)
 | t=>t
theorem ZdL (x y:Ex) (w:List Nat):memE (.join x y) w↔∃ u v,w=u++v∧memE x u∧memE y v:=Iff.rfl
theorem Zgz (x y:Ex) (w:List Nat):memE (Zer x y) w↔memE (.join x y) w:=by
 unfold Zer;by_cases h1:x = .zero∨y = .zero
 ·rw[if_pos h1,ZdL];refine⟨fun h=>h.elim,?_⟩;rintro⟨u,v,-,hu,hv⟩;rcases h1 with rfl|rfl
  ·exact hu
  exact hv
 rw[if_neg h1];by_cases h2:x = .one
 ·rw[if_pos h2,ZdL];subst h2;constructor
  ·intro h;exact⟨[],w,rfl,rfl,h⟩
  rintro⟨u,v,rfl,hu,hv⟩;have hu:u=[]:=hu;rw[hu];exact hv
 rw[if_neg h2];by_cases h3:y = .one
 ·rw[if_pos h3,ZdL];subst h3;constructor
  ·intro h;exact⟨w,[],(List.append_nil w).symm,h,rfl⟩
  rintro⟨u,v,rfl,hu,hv⟩;have hv:v=[]:=hv;rw[hv,List.append_nil];exact hu
 rw[if_neg h3]
theorem Zey (x y:Ex) (w:List Nat):memE (Zfw x y) w↔memE x w∨memE y w:=by
 unfold Zfw;by_cases h1:x = .zero∨x=y
 ·rw[if_pos h1];refine⟨.inr,?_⟩;rintro(h|h)
  ·rcases h1 with rfl|rfl
   ·exact h.elim
   exact h
  exact h
 rw[if_neg h1];by_cases h2:y = .zero
 ·rw[if_pos h2];subst h2;exact⟨.inl,fun h=>h.elim id fun h=>h.elim⟩
 rw[if_neg h2];exact Iff.rfl
theorem Zmh {w:List Nat} {L:List Nat→Prop} (hL:∀ u,L u→u=[]):StarL L w↔w=[]:=by
 constructor
 ·rintro⟨ws,rfl,hw⟩
  induction ws with
  | nil=>rfl
  | cons u ws ih =>rw[List.flatten_cons,hL u (hw u (List.mem_cons_self ..)),ih fun x hx=>hw x (List.mem_cons_of_mem _ hx)];rfl
 rintro rfl;exact⟨[],rfl,by simp⟩
theorem Zlh {L:List Nat→Prop} {w:List Nat}:StarL (StarL L) w↔StarL L w:=by
 constructor
 ·rintro⟨ws,rfl,hw⟩
  induction ws with
  | nil=>exact⟨[],rfl,by simp⟩
  | cons u ws ih =>
   obtain⟨us,hu,h1⟩:=hw u (List.mem_cons_self ..);obtain⟨vs,hv,h2⟩:=ih fun x hx=>hw x (List.mem_cons_of_mem _ hx)
   refine⟨us++vs,?_,fun x hx => ?_⟩
   ·rw[List.flatten_cons,List.flatten_append,hu,hv]
   rcases List.mem_append.1 hx with h|h
   ·exact h1 x h
   exact h2 x h
 intro h;exact⟨[w],by simp,by simpa using h⟩
theorem Zmf (x:Ex) (w:List Nat):memE (Zed x) w↔memE (.star x) w:=by
 unfold Zed;by_cases h1:x = .zero∨x = .one
 ·rw[if_pos h1];refine(Zmh (L:=memE x) fun u hu => ?_).symm;rcases h1 with rfl|rfl
  ·exact hu.elim
  exact hu
 rw[if_neg h1]
 split
 ·exact Zlh.symm
 exact Iff.rfl
end Go.Proofs.YtncekbbhgipdlaaGreat
