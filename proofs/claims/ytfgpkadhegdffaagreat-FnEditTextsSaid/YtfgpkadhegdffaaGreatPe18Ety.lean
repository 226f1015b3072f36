/-
  Where the operands of a tree's list begin, plain.
  No condition: this text speaks of no program.
-/
import Derived.Test.YtfgpkadhegdffaaGreatPe15Dr
set_option maxHeartbeats 8000000
set_option maxRecDepth 100000
namespace Go.Proofs.YtfgpkadhegdffaaGreat
theorem Zgm {xs ys:List (Int × Int)} {p:Int × Int}:(xs++p::ys).getD xs.length (0,0)=p:=by simp
theorem Zip {es pre suf:List (Int × Int)} {p:Int × Int} (he:es=pre++p::suf) (hp:Zad p=0):stkB es (pre.length+1)=stkB es pre.length++[pre.length]:=by
 have h:es.getD pre.length (0,0)=p:=by rw[he];exact Zgm
 rw[Zc5];unfold begB;rw[h,hp];simp
theorem Zm2 {es pre xs suf:List (Int × Int)} {p:Int × Int} (he:es=pre++xs++p::suf) (hp:Zad p=1) (hx:stkB es (pre.length+xs.length)=stkB es pre.length++[pre.length]):stkB es (pre.length+(xs.length+1))=stkB es pre.length++[pre.length]:=by
 have h:es.getD (pre.length+xs.length) (0,0)=p:=by rw[he,← List.length_append];exact Zgm
 rw[← Nat.add_assoc,Zc5];unfold begB;rw[h,hp,hx];simp
theorem Zkp {es pre xs ys suf:List (Int × Int)} {p:Int × Int} (he:es=pre++xs++ys++p::suf) (hp:Zad p=2) (hx:stkB es (pre.length+xs.length)=stkB es pre.length++[pre.length]) (hy:stkB es (pre.length+xs.length+ys.length)=stkB es (pre.length+xs.length)++[pre.length+xs.length]) :
  stkB es (pre.length+(xs.length+(ys.length+1)))=stkB es pre.length++[pre.length]:=by
 have h:es.getD (pre.length+xs.length+ys.length) (0,0)=p:=by rw[he,← List.length_append,← List.length_append];exact Zgm
 rw[show pre.length+(xs.length+(ys.length+1))=pre.length+xs.length+ys.length+1 by omega,Zc5];unfold begB;rw[h,hp,hy,hx];simp
theorem Zpp:∀ (t:Ex) (es pre suf:List (Int × Int)),es=pre++t.post++suf→stkB es (pre.length+t.post.length)=stkB es pre.length++[pre.length]:=by
 intro t
 induction t with
 | zero=>intro es pre suf he;exact Zip (p:=(1,0)) (suf:=suf) (by rw[he];simp[Ex.post]) Zgg
 | one=>intro es pre suf he;exact Zip (p:=(2,0)) (suf:=suf) (by rw[he];simp[Ex.post]) Zgf
 | ltr c=>intro es pre suf he;exact Zip (p:=(3,(c.val:Int))) (suf:=suf) (by rw[he];simp[Ex.post]) (ZeD c)
 | neg a ha =>intro es pre suf he;have h1:=ha es pre ((7,0)::suf) (by rw[he];simp[Ex.post]);have h2:=Zm2 (xs:=a.post) (p:=(7,0)) (suf:=suf) (by rw[he];simp[Ex.post]) ZhX h1;simpa [Ex.post] using h2
 | star a ha =>intro es pre suf he;have h1:=ha es pre ((8,0)::suf) (by rw[he];simp[Ex.post]);have h2:=Zm2 (xs:=a.post) (p:=(8,0)) (suf:=suf) (by rw[he];simp[Ex.post]) Zfh h1;simpa [Ex.post] using h2
 | join a b ha hb =>intro es pre suf he;have h1:=ha es pre (b.post++(4,0)::suf) (by rw[he];simp[Ex.post]);have h2:=hb es (pre++a.post) ((4,0)::suf) (by rw[he];simp[Ex.post]);rw[List.length_append] at h2;have h3:=Zkp (xs:=a.post) (ys:=b.post) (p:=(4,0)) (suf:=suf) (by rw[he];simp[Ex.post]) Zfi h1 h2;simpa [Ex.post] using h3
 | alt a b ha hb =>intro es pre suf he;have h1:=ha es pre (b.post++(5,0)::suf) (by rw[he];simp[Ex.post]);have h2:=hb es (pre++a.post) ((5,0)::suf) (by rw[he];simp[Ex.post]);rw[List.length_append] at h2;have h3:=Zkp (xs:=a.post) (ys:=b.post) (p:=(5,0)) (suf:=suf) (by rw[he];simp[Ex.post]) ZhY h1 h2;simpa [Ex.post] using h3
 | both a b ha hb =>intro es pre suf he;have h1:=ha es pre (b.post++(6,0)::suf) (by rw[he];simp[Ex.post]);have h2:=hb es (pre++a.post) ((6,0)::suf) (by rw[he];simp[Ex.post]);rw[List.length_append] at h2;have h3:=Zkp (xs:=a.post) (ys:=b.post) (p:=(6,0)) (suf:=suf) (by rw[he];simp[Ex.post]) Zfj h1 h2;simpa [Ex.post] using h3
theorem Zq2 (a b:Ex) (p:Int × Int):begB (a.post++b.post++[p]) (a.post.length+b.post.length-1)=a.post.length:=by have h2:=Zpp b (a.post++b.post++[p]) a.post [p] rfl;have hb:=Za8 b;rw[show a.post.length+b.post.length=(a.post.length+b.post.length-1)+1 by omega,Zc5] at h2;have:=List.append_inj_right' h2 rfl;simpa using this
end Go.Proofs.YtfgpkadhegdffaaGreat
namespace Go.Proofs.YtfgpkadhegdffaaGreat
open Go.RowKit
theorem Zdb {w:World} {v:Value} {pre:List (Int × Int)} {p:Int × Int} (h:Pairs 0 w v (pre++[p])):∃ b off cap,v = .slice (some ⟨b,off,none⟩) (pre.length+1) cap∧pre.length+1≤cap∧cap≤9223372036854775807∧b<w.heap.size ∧
  ∀ u,Below w.heap.size w u→u.cell? ⟨b,off+pre.length*2,none⟩=some (.int .i64 p.1)∧u.cell? ⟨b,off+pre.length*2+1,none⟩=some (.int .i64 p.2):=by
 obtain⟨a,cap,hv,h1,h2,h3⟩:=h.form;obtain⟨b,off,rfl,-,hb,hc⟩:=h3 (by simp);have hl:(pre++[p]).length=pre.length+1:=by simp
 rw[hl] at hv h1;obtain⟨c1,c2⟩:=hc pre.length (by simp);have e:(pre++[p]).getD pre.length (0,0)=p:=Zgm;rw[e] at c1 c2;exact⟨b,off,cap,hv,h1,h2,hb,fun u hu=>⟨(bcell hu b _ hb).trans c1,(bcell hu b _ hb).trans c2⟩⟩
theorem Zre {es:List (Int × Int)} {w:World} {e:Ending} {w':World} (hok:exOk es=true) (h:RSt es es.length w e w'):∃ g b,e = .returned (.tuple #[.slice (some ⟨g,0,none⟩) es.length es.length,.bool b])∧St w w' [Ent.row 3 1 (.slice (some ⟨g,0,none⟩) es.length es.length) es.length (intCells (clsL es.length (begB es)))]:=by
 rcases h with⟨-,g,b,he,-,hS⟩|⟨hbad,-⟩
 ·exact⟨g,b,he,hS⟩
 exact absurd (Zgo.1 hok).1 hbad
theorem Zhx (a b t:Ex) (k l:Int) (ht:t.post=a.post++b.post++[(k,l)]) (hk:Zad (k,l)=2) (v:Value) (w:World) (h60:t.post.length≤60) (h:Pairs 0 w v t.post) :
  Calls Tryz.prog 149 #[v] w fun e w'=>∃ g va vb,e = .returned (.slice (some ⟨g,0,none⟩) 2 2)∧St w w' [Ent.row 40 1 (.slice (some ⟨g,0,none⟩) 2 2) 2 [va,vb]]∧Pairs 0 w va a.post∧Pairs 0 w vb b.post:=by
 have hok:=ZaH t h60;have hst:=qh (ZcZ t.post v w (by omega) h);have hbt:=Zq2 a b (k,l);rw[← ht] at hbt;have hP:=h;rw[ht] at hP;obtain⟨bb,off,cap,rfl,hc1,hc2,hb,hcell⟩:=Zdb hP;have hpl:(a.post++b.post).length=a.post.length+b.post.length:=by simp
 have hal:=Za8 a;have hbl:=Za8 b;have htl:t.post.length=a.post.length+b.post.length+1:=by rw[ht];simp;omega
 rw[hpl] at hc1 hcell hst hP ⊢;have hPa:=hP.take (n:=a.post.length) (by simp);have hPd:=hP.drop (n:=a.post.length) (by simp);have e1:(a.post++b.post++[(k,l)]).take a.post.length=a.post:=by rw[List.append_assoc,List.take_left]
 have e2:(a.post++b.post++[(k,l)]).drop a.post.length=b.post++[(k,l)]:=by rw[List.append_assoc,List.drop_left]
 rw[e1] at hPa;rw[e2] at hPd;have hPb:=hPd.take (n:=b.post.length) (by simp);rw[List.take_left] at hPb;obtain⟨A,hA⟩:=eI (a.post.length);obtain⟨B,hB⟩:=eI (b.post.length);obtain⟨m,hm⟩:=eI (A+B);rw[← hA,← hB,← hm] at htl hc1 hcell hst hbt;rw[← hA,← hB] at hPb;rw[← hA] at hPa hal;rw[← hB] at hbl;rw[← hA,← hB,← hm];have hst2:=hst;have Hcell:=qh hcell;have HPa:=qh hPa;have HPb:=qh hPb;have hw1:IntKind.i64.wrap ((m:Int)+1-1)=(m:Int):=by rw[IntWalk.i64_in _ (by omega)];omega
 have hw2:IntKind.i64.wrap ((m:Int)-1)=((m-1:Nat):Int):=by rw[IntWalk.i64_in _ (by omega)];omega
 have hm1:m-1<m+1:=by omega
 have hm2:((m-1:Nat):Int)<(m:Int)+1:=by omega
 have hbeg:(intCells (clsL (m+1) (begB t.post)))[m-1]? = some (.int .i64 (A:Int)):=by rw[ZaZ _ (by omega),hbt]
 have Hbeg:=qh hbeg;have hmA:A+1≤m:=by omega
 have hmI:(A:Int)≤(m:Int):=by omega
 replace hm:=qh hm;replace hk:=qh hk;have Hhpl:=qh hpl;clear hpl;have Hhok:=qh hok;clear hok;replace hbt:=qh hbt;have Hhtl:=qh htl;clear htl;replace hA:=qh hA;have HhB:=qh hB;clear hB;have Hht:=qh ht;clear ht;clear hP hPd hPa hPb hcell e1 e2 h hst2 hbeg
 go_enter Tryz.func149, Tryz.ntmps149
 go_wp2_with (go_at_call 95;refine(hst.out).mono ?_;rintro e w1 hR;have h9:=Zre Hhok.out hR;rw[Hhtl.out] at h9;obtain⟨g,bx,rfl,hS⟩:=h9;have k4:=hS.rcell (v:=.int .i64 (A:Int)) 0 (m-1) rfl (by omega) Hbeg.out;have HS:=qh hS;obtain⟨k2,k3⟩:=Hcell.out _ hS.bel;clear hR hS);refine(ZaJ k l _ 2 hk.out (by omega)).mono ?_;rintro e w2 ⟨rfl,hb2⟩;have HS2:=qh (HS.out.call hb2);have k5:=HS2.out.rcell (v:=.int .i64 (A:Int)) 0 (m-1) rfl (by omega) Hbeg.out;have hne:(cap=A)=False:=by simp;omega
 have hBm:B=m-A:=by have:=hm.out;omega
 have hPb:=HPb.out;rw[hBm] at hPb;have HPb2:=qh hPb;have HhBm:=qh hBm;clear hBm;clear k2 k3 k4 hb2 hPb;go_wp2
 go_region
 go_wp2;have hS3:=(HS2.out.alloc w2.heap.size rfl #[.slice (some ⟨bb,off,none⟩) A cap,.slice (some ⟨bb,off+A*2,none⟩) (m-A) (cap-A)] 40).boxrow 1 2 1 [.slice (some ⟨bb,off,none⟩) A cap,.slice (some ⟨bb,off+A*2,none⟩) (m-A) (cap-A)] rfl rfl (by unfold maxLen;omega);go_ret;exact⟨_,_,_,rfl,hS3.drew.pick [1] (by decide),HPa.out,HPb2.out⟩
theorem Zhy (a t:Ex) (k l:Int) (ht:t.post=a.post++[(k,l)]) (hk:Zad (k,l)=1) (v:Value) (w:World) (h60:t.post.length≤60) (h:Pairs 0 w v t.post) :
  Calls Tryz.prog 149 #[v] w fun e w'=>∃ g va,e = .returned (.slice (some ⟨g,0,none⟩) 1 1)∧St w w' [Ent.row 40 1 (.slice (some ⟨g,0,none⟩) 1 1) 1 [va]]∧Pairs 0 w va a.post:=by
 have hok:=ZaH t h60;have hst:=qh (ZcZ t.post v w (by omega) h);have hP:=h;rw[ht] at hP;obtain⟨bb,off,cap,rfl,hc1,hc2,hb,hcell⟩:=Zdb hP;have hal:=Za8 a;have htl:t.post.length=a.post.length+1:=by rw[ht];simp
 have hPa:=hP.take (n:=a.post.length) (by simp);rw[List.take_left] at hPa;obtain⟨m,hm⟩:=eI (a.post.length);rw[← hm] at htl hc1 hcell hst hPa hal;rw[← hm];have Hcell:=qh hcell;have HPa:=qh hPa;have hw1:IntKind.i64.wrap ((m:Int)+1-1)=(m:Int):=by rw[IntWalk.i64_in _ (by omega)];omega
 replace hk:=qh hk;have Hhok:=qh hok;clear hok;have Hhtl:=qh htl;clear htl;have Hhm:=qh hm;clear hm;have Hht:=qh ht;clear ht;clear hP hPa hcell h
 go_enter Tryz.func149, Tryz.ntmps149
 go_wp2_with (go_at_call 95;refine(hst.out).mono ?_;rintro e w1 hR;have h9:=Zre Hhok.out hR;rw[Hhtl.out] at h9;obtain⟨g,bx,rfl,hS⟩:=h9;have HS:=qh hS;obtain⟨k2,k3⟩:=Hcell.out _ hS.bel;clear hR hS);refine(ZaJ k l _ 1 hk.out (by omega)).mono ?_;rintro e w2 ⟨rfl,hb2⟩;have HS2:=qh (HS.out.call hb2);have hS3:=(HS2.out.alloc w2.heap.size rfl #[.slice (some ⟨bb,off,none⟩) m cap] 40).boxrow 1 1 1 [.slice (some ⟨bb,off,none⟩) m cap] rfl rfl (by unfold maxLen;omega);have HS3:=qh hS3;clear k2 k3 hb2 hS3;go_wp2;go_ret;exact⟨_,_,rfl,HS3.out.pick [1] (by decide),HPa.out⟩
theorem Zdp (a b t:Ex) (k l:Int) (ht:t.post=a.post++b.post++[(k,l)]) (hk:Zad (k,l)=2) (v:Value) (w:World) (h60:t.post.length≤60) (h:Pairs 0 w v t.post) :
  Calls Tryz.prog 149 #[v] w fun e w'=>∃ g va vb,e = .returned (.slice (some ⟨g,0,none⟩) 2 2)∧St w w' [Ent.row 40 1 (.slice (some ⟨g,0,none⟩) 2 2) 2 [va,vb]]∧Pairs 0 w' va a.post∧Pairs 0 w' vb b.post :=
 (Zhx a b t k l ht hk v w h60 h).mono fun _ _ ⟨g,va,vb,he,hS,h1,h2⟩=>⟨g,va,vb,he,hS,h1.below hS.bel,h2.below hS.bel⟩
theorem ZeH (a t:Ex) (k l:Int) (ht:t.post=a.post++[(k,l)]) (hk:Zad (k,l)=1) (v:Value) (w:World) (h60:t.post.length≤60) (h:Pairs 0 w v t.post) :
  Calls Tryz.prog 149 #[v] w fun e w'=>∃ g va,e = .returned (.slice (some ⟨g,0,none⟩) 1 1)∧St w w' [Ent.row 40 1 (.slice (some ⟨g,0,none⟩) 1 1) 1 [va]]∧Pairs 0 w' va a.post :=
 (Zhy a t k l ht hk v w h60 h).mono fun _ _ ⟨g,va,he,hS,h1⟩=>⟨g,va,he,hS,h1.below hS.bel⟩
theorem Zd3 (u v:List Nat):txB u++txB v=txB (u++v):=by apply ByteArray.ext;simp[txB,ByteArray.data_append]
theorem ZmR (u:List Nat) {v:ByteArray} {l:List Nat} (hv:v=txB l):txB u++v=txB (u++l):=by rw[hv,Zd3]
theorem Zio (c:Nat) (hc:c<3):strOfNums [97+(c:Int)]=txB [97+c]:=by
 obtain rfl|rfl|rfl:c=0∨c=1∨c=2:=by omega
 all_goals rfl
theorem ZlQ (c:Nat) (hc:c<3) (w:World) (b cap:Nat) (h:w.cell? ⟨b,0,none⟩=some (.int .u8 (97+(c:Int)))) :
  (convert 36 9 (.slice (some ⟨b,0,none⟩) 1 cap)).run Tryz.prog w = .ok (.string (txB [97+c])) w:=by
 rw[← Zio c hc]
 exact run_convert_bytes_arg w 36 5 Tryz.underlying36 Tryz.underlying5 b 0 1 cap [97+(c:Int)] rfl (fun i hi=>by
  obtain rfl:i=0:=by omega
  simpa using h) 9 Tryz.underlying9
theorem Zjj (c:Nat) (hc:c<3):IntKind.u8.wrap (97+(c:Int))=97+(c:Int):=by
 obtain rfl|rfl|rfl:c=0∨c=1∨c=2:=by omega
 all_goals rfl
theorem Zl4 (u:List Nat) (v:ByteArray) (hu:u.length≤1000) (hv:v.size≤1000):(∀ w':World,(Op.stringOp .add (txB u) v).run Tryz.prog w' = .ok (.string (txB u++v)) w')∧¬ 9223372036854775807<(txB u).size+v.size:=by have h:=Zaw u;exact⟨fun w'=>run_string_add_sum w' _ _ (by omega),by omega⟩
theorem ZiP {l:List Nat} {c:Nat} (h:isT l) (hc:c<256):isT (l++[c]):=fun b hb=>by
 rcases List.mem_append.1 hb with hb|hb
 ·exact h b hb
 rw[List.mem_singleton.1 hb];exact hc
theorem ZjN (bs:List Nat) (vb:Value) (b p n:Nat) (w0 w:World) (X:Ent) (hb:Bytes 0 w0 vb bs) (hlen:bs.length≤2000) (hp:p≤800000) (hn1:n≤10000) (hS:St w0 w [RdE b vb p,X]) :
  Calls Tryz.prog 59 #[.pointer (some ⟨b,0,none⟩),.int .i64 ((n:Nat):Int)] w fun e w'=>∃ (l:List Nat) (p':Nat),isT l∧l.length≤10∧p'≤p+20∧e = .returned (.string (txB l))∧St w0 w' [RdE b vb p',X]:=by
 have Hb:=qh hb;have HS:=qh hS;clear hb hS
 go_enter Tryz.func59, Tryz.ntmps59
 go_wp2_with fail;refine(ZaQ bs vb b p 9 w0 _ _ Hb.out hlen (by omega) (by omega) (by omega) HS.out).mono ?_;rintro e w1 ⟨k0,hk0,rfl,hS1⟩;have HS1:=qh hS1;clear hS1;go_wp2
 go_loopw [5,6] (fun vs vk wr=>∃ (k pq:Nat) (l:List Nat),vk = .int .i64 k∧vs = .string (txB l)∧l.length+k≤8∧pq+k≤p+9∧isT l∧St w0 wr [RdE b vb pq,X])
  (fun _ vk _=>(intOf vk).toNat)
 case atStart=>exact⟨k0,p+1,[],rfl,rfl,by simp;omega,by omega,(fun b hb=>by cases hb),HS1.out⟩
 case round =>
  obtain⟨k,pq,l,rfl,rfl,hk,hpq,ht,hS⟩:=hrel;have HS2:=qh hS;have Ht:=qh ht;clear hS ht;by_cases hlt:0<k
  ·go_wp2_with fail;refine(ZaQ bs vb b pq 3 w0 _ _ Hb.out hlen (by omega) (by omega) (by omega) HS2.out).mono ?_;rintro e w2 ⟨c,hc,rfl,hS3⟩;have HS3:=qh (hS3.alloc_ (.cells #[.int .u8 (97+(c:Int))] 5));have hw1:IntKind.i64.wrap (97+(c:Int))=97+(c:Int):=IntWalk.i64_in _ (by omega);have hw2:=Zjj c hc;have hcv:=ZlQ c hc (w2.alloc (.cells #[.int .u8 (97+(c:Int))] 5)) w2.heap.size 1 (Zih _ _ _ 0);obtain⟨hadd,hnlt⟩:=Zl4 l (txB [97+c]) (by omega) (by rw[Zaw];simp);clear hS3;go_wp2;go_roundw
   case rel =>refine⟨k-1,pq+1,l++[97+c],by congr 1;omega,by rw[Zd3],by rw[List.length_append];simp;omega,by omega,ZiP Ht.out (by omega),HS3.out⟩
   case measure=>simp[intOf];omega
  have hz:((0:Int)<(k:Int))=False:=by simp;omega
  have hz2:(0<k)=False:=by simp;omega
  clear hlt;go_wp2_with fail;refine(ZnD bs vb b pq n w0 _ _ Hb.out hlen (by omega) hn1 HS2.out).mono ?_;rintro e w2 ⟨q,p2,hp2,rfl,hS3⟩;have HS3:=qh hS3;clear hS3;cases q
  ·go_wp2;go_ret;exact⟨l,p2,Ht.out,by omega,by omega,rfl,HS3.out⟩
  obtain⟨hadd1,hnlt1⟩:=Zl4 l { data:=#[100] } (by omega) (by decide);obtain⟨hadd2,hnlt2⟩:=Zl4 l { data:=#[65] } (by omega) (by decide);obtain⟨u1,hu1⟩:∃ u1,u1=txB l++{ data:=#[100] }:=⟨_,rfl⟩;obtain⟨u2,hu2⟩:∃ u2,u2=txB l++{ data:=#[65] }:=⟨_,rfl⟩;rw[← hu1] at hadd1;rw[← hu2] at hadd2;have he1:u1=txB (l++[100]):=by rw[hu1];exact ZmR l rfl
  have he2:u2=txB (l++[65]):=by rw[hu2];exact ZmR l rfl
  have HS4:=qh (HS3.out.alloc _ rfl #[.string u1,.string u2,.string { data:=#[97,97,97,97,97,97,97,97,97] }] 9);replace hu1:=qh hu1;have Hhu2:=qh hu2;clear hu2;replace he1:=qh he1;have Hhe2:=qh he2;clear he2;go_wp2_with fail;refine(ZaQ bs vb b p2 3 w0 _ _ Hb.out hlen (by omega) (by omega) (by omega) (St.pack (A:=[RdE b vb p2]) (R:=[X,Ent.box w2.heap.size #[.string u1,.string u2,.string { data:=#[97,97,97,97,97,97,97,97,97] }] 9]) HS4.out)).mono ?_;rintro e w5 ⟨j,hj,rfl,hSp⟩;have HS5:=qh (St.unpack (A:=[RdE b vb p2]) (A':=[RdE b vb (p2+1)]) (R:=[X,Ent.box w2.heap.size #[.string u1,.string u2,.string { data:=#[97,97,97,97,97,97,97,97,97] }] 9]) HS4.out hSp);have c0:=HS5.out.cell (v:=.string u1) 2 0 rfl rfl;have c1:=HS5.out.cell (v:=.string u2) 2 1 rfl rfl;have c2:=HS5.out.cell (v:=.string { data:=#[97,97,97,97,97,97,97,97,97] }) 2 2 rfl rfl;clear hSp;obtain rfl|rfl|rfl:j=0∨j=1∨j=2:=by omega
  ·go_wp2;go_ret;exact⟨l++[100],p2+1,ZiP Ht.out (by omega),by rw[List.length_append];simp;omega,by omega,by rw[he1.out];rfl,HS5.out.pick [0,1] (by decide)⟩
  ·go_wp2;go_ret;exact⟨l++[65],p2+1,ZiP Ht.out (by omega),by rw[List.length_append];simp;omega,by omega,by rw[Hhe2.out];rfl,HS5.out.pick [0,1] (by decide)⟩
  go_wp2;go_ret;exact⟨[97,97,97,97,97,97,97,97,97],p2+1,(fun b hb=>by simp at hb;omega),by decide,by omega,rfl,HS5.out.pick [0,1] (by decide)⟩
theorem ZkP (bs:List Nat) (vb:Value) (b p n:Nat) (w0 w:World) (X:Ent) (hb:Bytes 0 w0 vb bs) (hlen:bs.length≤2000) (hp:p≤10000) (hn1:n≤10000) (hS:St w0 w [RdE b vb p,X]) :
  Calls Tryz.prog 59 #[.pointer (some ⟨b,0,none⟩),.int .i64 ((n:Nat):Int)] w fun e w'=>∃ (l:List Nat) (p':Nat),isT l∧l.length≤10∧e = .returned (.string (txB l))∧St w0 w' [RdE b vb p',X] :=
 (ZjN bs vb b p n w0 w X hb hlen (by omega) hn1 hS).mono fun _ _ ⟨l,p',h1,h2,_,h4,h5⟩=>⟨l,p',h1,h2,h4,h5⟩
theorem Zj4 (bs:List Nat) (v:Value) (w:World) (hb:Bytes 0 w v bs) (hlen:bs.length≤100000000) :
  Calls Tryz.prog 25 #[v] w fun e w'=>∃ l:List Nat,isT l∧l.length≤10∧e = .returned (.string (txB l))∧Below w.heap.size w w':=by
 have Hb:=qh hb;clear hb
 go_enter Tryz.func25, Tryz.ntmps25
 go_wp2_with fail;refine(Zlv bs v _ Hb.out hlen).mono ?_;rintro e w1 ⟨vb,bs',hl',hB,rfl,hS'⟩;have HB:=qh hB;have HS1:=qh hS';clear hB hS';go_wp2_with fail;refine(ZkP bs' vb w.heap.size 0 9 w w1 _ HB.out hl' (by omega) (by omega) (St.pack (A:=[RdE w.heap.size vb 0]) (R:=[]) HS1.out)).mono ?_;rintro e w2 ⟨l,p',ht,hl,rfl,hS2⟩;have HS2:=qh hS2;have Ht:=qh ht;clear hS2 ht;go_wp2;go_ret;exact⟨l,Ht.out,hl,rfl,HS2.out.bel⟩
theorem Zb4 (u v:List Nat) (bu bv:ByteArray) (hbu:bu=txB u) (hbv:bv=txB v) (hl:u.length+v.length≤1000000):(∀ w':World,(Op.stringOp .add bu bv).run Tryz.prog w' = .ok (.string (txB (u++v))) w')∧¬ 9223372036854775807<bu.size+bv.size:=by subst hbu;subst hbv;have h1:=Zaw u;have h2:=Zaw v;refine⟨fun w' => ?_,by omega⟩;rw[run_string_add_sum w' _ _ (by omega),Zd3]
theorem ZjL:∀ t:Ex,∃ pre p,t.post=pre++[p]∧bnK p.1=(bnd t:Int)
 | .zero=>⟨[],(1,0),rfl,rfl⟩
 | .one=>⟨[],(2,0),rfl,rfl⟩
 | .ltr c=>⟨[],(3,(c.val:Int)),rfl,rfl⟩
 | .join a b=>⟨a.post++b.post,(4,0),rfl,rfl⟩
 | .alt a b=>⟨a.post++b.post,(5,0),rfl,rfl⟩
 | .both a b=>⟨a.post++b.post,(6,0),rfl,rfl⟩
 | .neg a=>⟨a.post,(7,0),rfl,rfl⟩
 | .star a=>⟨a.post,(8,0),rfl,rfl⟩
def ZhL (t:Ex):Prop:=∀ (v:Value) (w:World),Pairs 0 w v t.post→Calls Tryz.prog 117 #[v] w fun e w'=>e = .returned (.string (txB (prE t)))∧Below w.heap.size w w'
def BrkC (t:Ex):Prop:=∀ (l:Nat) (v:Value) (w:World),Pairs 0 w v t.post→Calls Tryz.prog 150 #[v,.int .i64 (l:Int)] w fun e w'=>e = .returned (.string (txB (brk l t (prE t))))∧Below w.heap.size w w'
theorem ZfT (t:Ex) (h60:t.post.length≤60) (hT:ZhL t):BrkC t:=by
 intro l v w h;have hx:=qh (hT v w h);obtain⟨pre,p,hpost,hb⟩:=ZjL t;have hbd:=Zk4 t;have hlen:=Za7 t;have h2:=h;rw[hpost] at h2;obtain⟨bb,off,cap,rfl,hc1,hc2,hbl,hcell⟩:=Zdb h2;have hpl:pre.length≤59:=by rw[hpost] at h60;simp at h60;omega
 obtain⟨m,hm⟩:=eI (pre.length);rw[← hm] at hc1 hcell hx hpl;rw[← hm];have hcw:=hcell w (Below.refl _ _);obtain⟨k1,k2⟩:=hcw;obtain⟨k,x⟩:=p;have hw1:IntKind.i64.wrap ((m:Int)+1-1)=(m:Int):=by rw[IntWalk.i64_in _ (by omega)];omega
 obtain⟨B,hB⟩:=eI (bnd t);rw[← hB] at hb hbd;obtain⟨T,hTT⟩:=eI (prE t);rw[← hTT] at hx hlen ⊢;have hbrk:brk l t T=if B<l then 40::(T++[41]) else T:=by rw[hB];rfl
 rw[hbrk];replace hb:=qh hb;replace hB:=qh hB;have Hhm:=qh hm;clear hm;have Hhpost:=qh hpost;clear hpost;have HhTT:=qh hTT;clear hTT;have Hhbrk:=qh hbrk;clear hbrk;clear h h2 hcell hT;by_cases hlt:B<l
 ·have hltI:(B:Int)<(l:Int):=by omega
  rw[if_pos hlt];obtain⟨add1,n1⟩:=Zb4 [40] T { data:=#[40] } (txB T) rfl rfl (by simp;omega);obtain⟨add2,n2⟩:=Zb4 ([40]++T) [41] (txB ([40]++T)) { data:=#[41] } rfl rfl (by simp;omega);have e2:[40]++T++[41]=40::(T++[41]):=by simp
  rw[e2] at add2;obtain⟨s1,hs1⟩:=eJ (txB ([40]++T));rw[hs1] at add1 add2 n2;have Hhs1:=qh hs1;clear hs1;replace e2:=qh e2
  go_enter Tryz.func150, Tryz.ntmps150
  go_wp2_with (first
   | (go_at_call 113;refine(ZaC k _ _ hb.out).mono ?_;rintro e w' ⟨rfl,rfl⟩)
   | (go_at_call 117;refine(hx.out).mono ?_;rintro e w1 ⟨rfl,hb1⟩))
  go_ret;exact⟨rfl,hb1⟩
 have hleI:(l:Int)≤(B:Int):=by omega
 rw[if_neg hlt];clear hlt
 go_enter Tryz.func150, Tryz.ntmps150
 go_wp2_with (first
  | (go_at_call 113;refine(ZaC k _ _ hb.out).mono ?_;rintro e w' ⟨rfl,rfl⟩)
  | (go_at_call 117;refine(hx.out).mono ?_;rintro e w1 ⟨rfl,hb1⟩))
 go_ret;exact⟨rfl,hb1⟩
end Go.Proofs.YtfgpkadhegdffaaGreat
namespace Go.Proofs.YtfgpkadhegdffaaGreat
open Go.RowKit Go.Maps
def Ent.map {α:Type} (kt:Nat) (enc:α→Value) (b:Nat) (M:List (α × Value)):Ent:=⟨fun k=>k=b,fun w=>MapL Tryz.prog kt enc w b M,fun _ _ h hk=>h.kept (hk b rfl)⟩
section
variable {α:Type} {w0 w w':World} {L:List Ent} {kt:Nat} {enc:α→Value} {b:Nat} {M M':List (α × Value)}
theorem St.map (h:St w0 w L) (i:Nat) (hx:L[i]? = some (Ent.map kt enc b M)):MapL Tryz.prog kt enc w b M:=(h.has i _ hx).1
theorem St.mapset (h:St w0 w L) (i:Nat) (hx:L[i]? = some (Ent.map kt enc b M)) (hn:MapL Tryz.prog kt enc w' b M') (hg:w.grownBy w' (some b)):St w0 w' (L.set i (Ent.map kt enc b M')) :=
 h.turn i hx _ hg.os hg.tape hg.output hg.size (fun k hk hne=>hg.block k hk fun e=>hne (show k=b from Option.some.inj e)) hn fun k hk=>by have hk:k=b:=hk;subst hk;exact⟨hn.lt,Or.inl rfl⟩
end
def ZbZ (x:Int):Value:=.int .i64 x
theorem ZaA:∀ x y:Int,ZbZ x=ZbZ y→x=y:=fun x y h=>by simp only[ZbZ,Value.int.injEq,true_and] at h;exact h
theorem Tryz.lawInt:Keyed Tryz.prog 3:=int_keyed Tryz.underlying3
theorem Tryz.keyOfInt (x:Int) (hx:fitI x):∃ l,keyOf Tryz.prog 3 (ZbZ x)=some l:=⟨_,keyOf_int_mk Tryz.underlying3 (ZlH hx)⟩
theorem Zf6 (w:World):(zeroValue 3).run Tryz.prog w = .ok (.int .i64 0) w:=by kernel_rfl
end Go.Proofs.YtfgpkadhegdffaaGreat
namespace Go.Proofs.YtfgpkadhegdffaaGreat
open Go.RowKit
theorem ZrF (W:World):∃ w3 w4 w5,True∧(Instr.mapUpdate 160 (.map (some W.heap.size)) (.int .i64 4) (.string { data:=#[] })).run Tryz.prog (W.alloc (.map #[] 0)) = .ok () w3 ∧
  (Instr.mapUpdate 160 (.map (some W.heap.size)) (.int .i64 5) (.string { data:=#[124] })).run Tryz.prog w3 = .ok () w4∧(Instr.mapUpdate 160 (.map (some W.heap.size)) (.int .i64 6) (.string { data:=#[38] })).run Tryz.prog w4 = .ok () w5 ∧
  (Instr.lookup 160 (.map (some W.heap.size)) (.int .i64 4) false).run Tryz.prog w5 = .ok (.string { data:=#[] }) w5∧Below W.heap.size W w5:=by
 obtain⟨l4,h4⟩:=Tryz.keyOfInt 4 (by unfold fitI;omega);obtain⟨l5,h5⟩:=Tryz.keyOfInt 5 (by unfold fitI;omega);obtain⟨l6,h6⟩:=Tryz.keyOfInt 6 (by unfold fitI;omega);have HM:=MapL.made (P:=Tryz.prog) (kt:=3) (enc:=ZbZ) W;obtain⟨w3,hr3,hm3,hg3⟩:=HM.store Tryz.lawInt ZaA Tryz.underlying160 h4 (.string { data:=#[] });obtain⟨w4,hr4,hm4,hg4⟩:=hm3.store Tryz.lawInt ZaA Tryz.underlying160 h5 (.string { data:=#[124] });obtain⟨w5,hr5,hm5,hg5⟩:=hm4.store Tryz.lawInt ZaA Tryz.underlying160 h6 (.string { data:=#[38] });have hlk:=hm5.lookup Tryz.lawInt ZaA Tryz.underlying160 (z:=.string { data:=#[] }) (by kernel_rfl) h4;refine⟨w3,w4,w5,trivial,hr3,hr4,hr5,hlk,?_⟩;have hb:∀ k,some W.heap.size=some k→W.heap.size≤k:=fun k hk=>by cases hk;exact Nat.le_refl _
 have b0:=(Below.refl W.heap.size W).alloc (Nat.le_refl _) (.map #[] 0);have b1:=b0.grown hg3 b0.size hb;have b2:=b1.grown hg4 b1.size hb;exact b2.grown hg5 b2.size hb
theorem ZrE (W:World):∃ w3 w4 w5,True∧(Instr.mapUpdate 160 (.map (some W.heap.size)) (.int .i64 4) (.string { data:=#[] })).run Tryz.prog (W.alloc (.map #[] 0)) = .ok () w3 ∧
  (Instr.mapUpdate 160 (.map (some W.heap.size)) (.int .i64 5) (.string { data:=#[124] })).run Tryz.prog w3 = .ok () w4∧(Instr.mapUpdate 160 (.map (some W.heap.size)) (.int .i64 6) (.string { data:=#[38] })).run Tryz.prog w4 = .ok () w5 ∧
  (Instr.lookup 160 (.map (some W.heap.size)) (.int .i64 5) false).run Tryz.prog w5 = .ok (.string { data:=#[124] }) w5∧Below W.heap.size W w5:=by
 obtain⟨l4,h4⟩:=Tryz.keyOfInt 4 (by unfold fitI;omega);obtain⟨l5,h5⟩:=Tryz.keyOfInt 5 (by unfold fitI;omega);obtain⟨l6,h6⟩:=Tryz.keyOfInt 6 (by unfold fitI;omega);have HM:=MapL.made (P:=Tryz.prog) (kt:=3) (enc:=ZbZ) W;obtain⟨w3,hr3,hm3,hg3⟩:=HM.store Tryz.lawInt ZaA Tryz.underlying160 h4 (.string { data:=#[] });obtain⟨w4,hr4,hm4,hg4⟩:=hm3.store Tryz.lawInt ZaA Tryz.underlying160 h5 (.string { data:=#[124] });obtain⟨w5,hr5,hm5,hg5⟩:=hm4.store Tryz.lawInt ZaA Tryz.underlying160 h6 (.string { data:=#[38] });have hlk:=hm5.lookup Tryz.lawInt ZaA Tryz.underlying160 (z:=.string { data:=#[] }) (by kernel_rfl) h5;refine⟨w3,w4,w5,trivial,hr3,hr4,hr5,hlk,?_⟩;have hb:∀ k,some W.heap.size=some k→W.heap.size≤k:=fun k hk=>by cases hk;exact Nat.le_refl _
 have b0:=(Below.refl W.heap.size W).alloc (Nat.le_refl _) (.map #[] 0);have b1:=b0.grown hg3 b0.size hb;have b2:=b1.grown hg4 b1.size hb;exact b2.grown hg5 b2.size hb
theorem ZrD (W:World):∃ w3 w4 w5,True∧(Instr.mapUpdate 160 (.map (some W.heap.size)) (.int .i64 4) (.string { data:=#[] })).run Tryz.prog (W.alloc (.map #[] 0)) = .ok () w3 ∧
  (Instr.mapUpdate 160 (.map (some W.heap.size)) (.int .i64 5) (.string { data:=#[124] })).run Tryz.prog w3 = .ok () w4∧(Instr.mapUpdate 160 (.map (some W.heap.size)) (.int .i64 6) (.string { data:=#[38] })).run Tryz.prog w4 = .ok () w5 ∧
  (Instr.lookup 160 (.map (some W.heap.size)) (.int .i64 6) false).run Tryz.prog w5 = .ok (.string { data:=#[38] }) w5∧Below W.heap.size W w5:=by
 obtain⟨l4,h4⟩:=Tryz.keyOfInt 4 (by unfold fitI;omega);obtain⟨l5,h5⟩:=Tryz.keyOfInt 5 (by unfold fitI;omega);obtain⟨l6,h6⟩:=Tryz.keyOfInt 6 (by unfold fitI;omega);have HM:=MapL.made (P:=Tryz.prog) (kt:=3) (enc:=ZbZ) W;obtain⟨w3,hr3,hm3,hg3⟩:=HM.store Tryz.lawInt ZaA Tryz.underlying160 h4 (.string { data:=#[] });obtain⟨w4,hr4,hm4,hg4⟩:=hm3.store Tryz.lawInt ZaA Tryz.underlying160 h5 (.string { data:=#[124] });obtain⟨w5,hr5,hm5,hg5⟩:=hm4.store Tryz.lawInt ZaA Tryz.underlying160 h6 (.string { data:=#[38] });have hlk:=hm5.lookup Tryz.lawInt ZaA Tryz.underlying160 (z:=.string { data:=#[] }) (by kernel_rfl) h6;refine⟨w3,w4,w5,trivial,hr3,hr4,hr5,hlk,?_⟩;have hb:∀ k,some W.heap.size=some k→W.heap.size≤k:=fun k hk=>by cases hk;exact Nat.le_refl _
 have b0:=(Below.refl W.heap.size W).alloc (Nat.le_refl _) (.map #[] 0);have b1:=b0.grown hg3 b0.size hb;have b2:=b1.grown hg4 b1.size hb;exact b2.grown hg5 b2.size hb
theorem ZmU:ZhL .zero:=by
 intro v w h;obtain⟨bb,off,cap,rfl,hc1,hc2,hbl,hcell⟩:=Zdb (pre:=[]) (p:=(1,0)) h;simp only[List.length_nil,Nat.zero_add,Nat.zero_mul,Nat.add_zero] at hc1 hcell;simp only[List.length_nil,Nat.zero_add];obtain⟨k1,k2⟩:=hcell w (Below.refl _ _);have HS0:=qh ((St.start w).alloc w.heap.size rfl #[.int .i64 1,.int .i64 0] 59);clear h hcell
 go_enter Tryz.func117, Tryz.ntmps117
 go_wp2_with (go_at_call 113;refine(ZaC 1 _ 6 rfl).mono ?_;rintro e w' ⟨rfl,rfl⟩);go_ret;exact⟨rfl,HS0.out.bel⟩
theorem Zph:ZhL .one:=by
 intro v w h;obtain⟨bb,off,cap,rfl,hc1,hc2,hbl,hcell⟩:=Zdb (pre:=[]) (p:=(2,0)) h;simp only[List.length_nil,Nat.zero_add,Nat.zero_mul,Nat.add_zero] at hc1 hcell;simp only[List.length_nil,Nat.zero_add];obtain⟨k1,k2⟩:=hcell w (Below.refl _ _);have HS0:=qh ((St.start w).alloc w.heap.size rfl #[.int .i64 2,.int .i64 0] 59);clear h hcell
 go_enter Tryz.func117, Tryz.ntmps117
 go_wp2_with (go_at_call 113;refine(ZaC 2 _ 6 rfl).mono ?_;rintro e w' ⟨rfl,rfl⟩);go_ret;exact⟨rfl,HS0.out.bel⟩
theorem Zpj (c:Fin 3):ZhL (.ltr c):=by
 intro v w h;obtain⟨c,hc⟩:=c;obtain⟨bb,off,cap,rfl,hc1,hc2,hbl,hcell⟩:=Zdb (pre:=[]) (p:=(3,(c:Int))) h;simp only[List.length_nil,Nat.zero_add,Nat.zero_mul,Nat.add_zero] at hc1 hcell;simp only[List.length_nil,Nat.zero_add];obtain⟨k1,k2⟩:=hcell w (Below.refl _ _);have HS0:=qh ((St.start w).alloc w.heap.size rfl #[.int .i64 3,.int .i64 (c:Int)] 59)
 have hpr:txB (prE (.ltr ⟨c,hc⟩))=wdB [c]:=by
  obtain rfl|rfl|rfl:c=0∨c=1∨c=2:=by omega
  all_goals rfl
 rw[hpr];replace hpr:=qh hpr;clear h hcell
 go_enter Tryz.func117, Tryz.ntmps117
 go_wp2_with (first
  | (go_at_call 113;refine(ZaC 3 _ 6 rfl).mono ?_;rintro e w' ⟨rfl,rfl⟩)
  | (go_at_call 107;refine(Zhz c hc _).mono ?_;rintro e w' ⟨rfl,rfl⟩))
 go_ret;exact⟨rfl,HS0.out.bel⟩
theorem Zpi (a:Ex) (h60:(Ex.neg a).post.length≤60) (ha:BrkC a):ZhL (.neg a):=by
 intro v w h;have hP:=h;rw[show(Ex.neg a).post=a.post++[(7,0)] from rfl] at hP;obtain⟨bb,off,cap,rfl,hc1,hc2,hbl,hcell⟩:=Zdb hP;have hpl:a.post.length≤59:=by simp[Ex.post] at h60;omega
 have hla:=Za7 a;have hba:=ZaN 4 a (prE a);have HS0:=qh ((St.start w).alloc w.heap.size rfl #[.int .i64 7,.int .i64 0] 59);have hop:=fun (u:World) (hu:Below w.heap.size w u)=>ZeH a (.neg a) 7 0 rfl ZhX _ u h60 (h.below hu)
 obtain⟨m,hm⟩:=eI (a.post.length);rw[← hm] at hc1 hcell hpl hop hla;rw[← hm];obtain⟨k1,k2⟩:=hcell w (Below.refl _ _);have hw1:IntKind.i64.wrap ((m:Int)+1-1)=(m:Int):=by rw[IntWalk.i64_in _ (by omega)];omega
 obtain⟨A,hA⟩:=eI (brk 4 a (prE a));have hpr:prE (.neg a)=[33]++A:=by rw[hA];simp[prE]
 rw[hpr];have HA:=qh (fun (v:Value) (u:World) (hu:Pairs 0 u v a.post)=>by have:=ha 4 v u hu;rw[← hA] at this;exact this);rw[← hA] at hba;obtain⟨add1,n1⟩:=Zb4 [33] A { data:=#[33] } (txB A) rfl rfl (by simp;omega);obtain⟨s1,hs1⟩:=eJ (txB ([33]++A));rw[hs1] at add1;rw[hs1];have HOP:=qh hop;replace hs1:=qh hs1;replace hA:=qh hA;have Hhpr:=qh hpr;clear hpr;have Hhm:=qh hm;clear hm;clear h hP hcell hop ha hba hla
 go_enter Tryz.func117, Tryz.ntmps117
 go_wp2_with (first
  | (go_at_call 113;refine(ZaC 7 _ 4 rfl).mono ?_;rintro e w' ⟨rfl,rfl⟩)
  | (go_at_call 149;refine(HOP.out _ HS0.out.bel).mono ?_;rintro e w1 ⟨g,va,rfl,hS,hPa⟩;have HS1:=qh (show St w w1 [Ent.box w.heap.size #[.int .i64 7,.int .i64 0] 59,Ent.row 40 1 (.slice (some ⟨g,0,none⟩) 1 1) 1 [va]] from HS0.out.cat hS);have HPa:=qh hPa;have q0:=HS1.out.rcell (v:=va) 1 0 rfl (by omega) rfl;clear hS hPa)
  | (go_at_call 150;refine(HA.out _ _ HPa.out).mono ?_;rintro e w2 ⟨rfl,hb2⟩;have HS2:=qh (HS1.out.call hb2);have r0:=HS2.out.cell (v:=.int .i64 7) 0 0 rfl rfl;clear hb2))
 go_ret;exact⟨rfl,HS2.out.bel⟩
theorem ZmV (a:Ex) (h60:(Ex.star a).post.length≤60) (ha:BrkC a):ZhL (.star a):=by
 intro v w h;have hP:=h;rw[show(Ex.star a).post=a.post++[(8,0)] from rfl] at hP;obtain⟨bb,off,cap,rfl,hc1,hc2,hbl,hcell⟩:=Zdb hP;have hpl:a.post.length≤59:=by simp[Ex.post] at h60;omega
 have hla:=Za7 a;have hba:=ZaN 5 a (prE a);have HS0:=qh ((St.start w).alloc w.heap.size rfl #[.int .i64 8,.int .i64 0] 59);have hop:=fun (u:World) (hu:Below w.heap.size w u)=>ZeH a (.star a) 8 0 rfl Zfh _ u h60 (h.below hu)
 obtain⟨m,hm⟩:=eI (a.post.length);rw[← hm] at hc1 hcell hpl hop hla;rw[← hm];obtain⟨k1,k2⟩:=hcell w (Below.refl _ _);have hw1:IntKind.i64.wrap ((m:Int)+1-1)=(m:Int):=by rw[IntWalk.i64_in _ (by omega)];omega
 obtain⟨A,hA⟩:=eI (brk 5 a (prE a));have hpr:prE (.star a)=A++[42]:=by rw[hA];simp[prE]
 rw[hpr];have HA:=qh (fun (v:Value) (u:World) (hu:Pairs 0 u v a.post)=>by have:=ha 5 v u hu;rw[← hA] at this;exact this);rw[← hA] at hba;obtain⟨add1,n1⟩:=Zb4 A [42] (txB A) { data:=#[42] } rfl rfl (by simp;omega);obtain⟨s1,hs1⟩:=eJ (txB (A++[42]));rw[hs1] at add1;rw[hs1];have HOP:=qh hop;replace hs1:=qh hs1;replace hA:=qh hA;have Hhpr:=qh hpr;clear hpr;have Hhm:=qh hm;clear hm;clear h hP hcell hop ha hba hla
 go_enter Tryz.func117, Tryz.ntmps117
 go_wp2_with (first
  | (go_at_call 113;refine(ZaC 8 _ 5 rfl).mono ?_;rintro e w' ⟨rfl,rfl⟩)
  | (go_at_call 149;refine(HOP.out _ HS0.out.bel).mono ?_;rintro e w1 ⟨g,va,rfl,hS,hPa⟩;have HS1:=qh (show St w w1 [Ent.box w.heap.size #[.int .i64 8,.int .i64 0] 59,Ent.row 40 1 (.slice (some ⟨g,0,none⟩) 1 1) 1 [va]] from HS0.out.cat hS);have HPa:=qh hPa;have q0:=HS1.out.rcell (v:=va) 1 0 rfl (by omega) rfl;clear hS hPa)
  | (go_at_call 150;refine(HA.out _ _ HPa.out).mono ?_;rintro e w2 ⟨rfl,hb2⟩;have HS2:=qh (HS1.out.call hb2);have r0:=HS2.out.cell (v:=.int .i64 8) 0 0 rfl rfl;clear hb2))
 go_ret;exact⟨rfl,HS2.out.bel⟩
theorem ZmW (a b:Ex) (h60:(Ex.join a b).post.length≤60) (ha:BrkC a) (hb:BrkC b):ZhL (.join a b):=by
 intro v w h;have hP:=h;rw[show(Ex.join a b).post=(a.post++b.post)++[(4,0)] from rfl] at hP;obtain⟨bb,off,cap,rfl,hc1,hc2,hbl,hcell⟩:=Zdb hP
 have hpl:(a.post++b.post).length≤59:=by
  have h1:(Ex.join a b).post.length=(a.post++b.post).length+1:=by simp[Ex.post];omega
  omega
 have hla:=Za7 a;have hlb:=Za7 b;have hba:=ZaN 3 a (prE a);have hbb:=ZaN 4 b (prE b);have hab:a.post.length+b.post.length≤59:=by simpa using hpl
 have HS0:=qh ((St.start w).alloc w.heap.size rfl #[.int .i64 4,.int .i64 0] 59);have hop:=fun (u:World) (hu:Below w.heap.size w u)=>Zdp a b (.join a b) 4 0 rfl Zfi _ u h60 (h.below hu)
 obtain⟨m,hm⟩:=eI ((a.post++b.post).length);rw[← hm] at hc1 hcell hpl hop;rw[← hm];obtain⟨k1,k2⟩:=hcell w (Below.refl _ _);have hw1:IntKind.i64.wrap ((m:Int)+1-1)=(m:Int):=by rw[IntWalk.i64_in _ (by omega)];omega
 obtain⟨A,hA⟩:=eI (brk 3 a (prE a));obtain⟨B,hB⟩:=eI (brk 4 b (prE b));have hpr:prE (.join a b)=(A++[])++B:=by rw[hA,hB];simp[prE]
 rw[hpr];have HA:=qh (fun (v:Value) (u:World) (hu:Pairs 0 u v a.post)=>(show Calls Tryz.prog 150 #[v,.int .i64 3] u fun e w'=>e = .returned (.string (txB A))∧Below u.heap.size u w' by have:=ha 3 v u hu;rw[← hA] at this;exact this));have HB:=qh (fun (v:Value) (u:World) (hu:Pairs 0 u v b.post)=>(show Calls Tryz.prog 150 #[v,.int .i64 4] u fun e w'=>e = .returned (.string (txB B))∧Below u.heap.size u w' by have:=hb 4 v u hu;rw[← hB] at this;exact this));rw[← hA] at hba;rw[← hB] at hbb;obtain⟨add1,n1⟩:=Zb4 A [] (txB A) { data:=#[] } rfl rfl (by simp;omega);obtain⟨add2,n2⟩:=Zb4 (A++[]) B (txB (A++[])) (txB B) rfl rfl (by simp;omega);obtain⟨s1,hs1⟩:=eJ (txB (A++[]));obtain⟨s2,hs2⟩:=eJ (txB ((A++[])++B));rw[hs1] at add1 add2 n2;rw[hs2] at add2;rw[hs2];have HOP:=qh hop;replace hs1:=qh hs1;have Hhs2:=qh hs2;clear hs2;replace hA:=qh hA;have HhB:=qh hB;clear hB;have Hhpr:=qh hpr;clear hpr;have Hhm:=qh hm;clear hm;have hmk:=@run_makeMap Tryz.prog;clear h hP hcell hop ha hb hba hbb hla hlb
 go_enter Tryz.func117, Tryz.ntmps117
 go_wp2_with (first
  | (go_at_call 113;refine(ZaC 4 _ 3 rfl).mono ?_;rintro e w' ⟨rfl,rfl⟩)
  | (go_at_call 149;refine(HOP.out _ HS0.out.bel).mono ?_;rintro e w1 ⟨g,va,vb,rfl,hS,hPa,hPb⟩;have HS1:=qh (show St w w1 [Ent.box w.heap.size #[.int .i64 4,.int .i64 0] 59,Ent.row 40 1 (.slice (some ⟨g,0,none⟩) 2 2) 2 [va,vb]] from HS0.out.cat hS);have HPa:=qh hPa;have HPb:=qh hPb;have q0:=HS1.out.rcell (v:=va) 1 0 rfl (by omega) rfl;clear hS hPa hPb)
  | (go_at_call 150;(with_reducible refine(HA.out _ _ HPa.out).mono ?_);rintro e w2 ⟨rfl,hb2⟩;have HS2:=qh (HS1.out.call hb2);have HPb2:=qh (HPb.out.below hb2);have r0:=HS2.out.cell (v:=.int .i64 4) 0 0 rfl rfl;have r1:=HS2.out.cell (v:=.int .i64 0) 0 1 rfl rfl;obtain⟨w3,w4,w5,hmm,hu1,hu2,hu3,hlk,hmb⟩:=ZrF w2;have HS3:=qh (HS2.out.call hmb);have HPb3:=qh (HPb2.out.below hmb);have r3:=HS3.out.cell (v:=.int .i64 4) 0 0 rfl rfl;have r4:=HS3.out.rcell (v:=vb) 1 1 rfl (by omega) rfl;clear hb2 hmb)
  | (go_at_call 150;(with_reducible refine(HB.out _ _ HPb3.out).mono ?_);rintro e w6 ⟨rfl,hb6⟩;have HS4:=qh (HS3.out.call hb6);clear hb6))
 go_ret;exact⟨rfl,HS4.out.bel⟩
theorem Zpk (a b:Ex) (h60:(Ex.alt a b).post.length≤60) (ha:BrkC a) (hb:BrkC b):ZhL (.alt a b):=by
 intro v w h;have hP:=h;rw[show(Ex.alt a b).post=(a.post++b.post)++[(5,0)] from rfl] at hP;obtain⟨bb,off,cap,rfl,hc1,hc2,hbl,hcell⟩:=Zdb hP
 have hpl:(a.post++b.post).length≤59:=by
  have h1:(Ex.alt a b).post.length=(a.post++b.post).length+1:=by simp[Ex.post];omega
  omega
 have hla:=Za7 a;have hlb:=Za7 b;have hba:=ZaN 1 a (prE a);have hbb:=ZaN 2 b (prE b);have hab:a.post.length+b.post.length≤59:=by simpa using hpl
 have HS0:=qh ((St.start w).alloc w.heap.size rfl #[.int .i64 5,.int .i64 0] 59);have hop:=fun (u:World) (hu:Below w.heap.size w u)=>Zdp a b (.alt a b) 5 0 rfl ZhY _ u h60 (h.below hu)
 obtain⟨m,hm⟩:=eI ((a.post++b.post).length);rw[← hm] at hc1 hcell hpl hop;rw[← hm];obtain⟨k1,k2⟩:=hcell w (Below.refl _ _);have hw1:IntKind.i64.wrap ((m:Int)+1-1)=(m:Int):=by rw[IntWalk.i64_in _ (by omega)];omega
 obtain⟨A,hA⟩:=eI (brk 1 a (prE a));obtain⟨B,hB⟩:=eI (brk 2 b (prE b));have hpr:prE (.alt a b)=(A++[124])++B:=by rw[hA,hB];simp[prE]
 rw[hpr];have HA:=qh (fun (v:Value) (u:World) (hu:Pairs 0 u v a.post)=>(show Calls Tryz.prog 150 #[v,.int .i64 1] u fun e w'=>e = .returned (.string (txB A))∧Below u.heap.size u w' by have:=ha 1 v u hu;rw[← hA] at this;exact this));have HB:=qh (fun (v:Value) (u:World) (hu:Pairs 0 u v b.post)=>(show Calls Tryz.prog 150 #[v,.int .i64 2] u fun e w'=>e = .returned (.string (txB B))∧Below u.heap.size u w' by have:=hb 2 v u hu;rw[← hB] at this;exact this));rw[← hA] at hba;rw[← hB] at hbb;obtain⟨add1,n1⟩:=Zb4 A [124] (txB A) { data:=#[124] } rfl rfl (by simp;omega);obtain⟨add2,n2⟩:=Zb4 (A++[124]) B (txB (A++[124])) (txB B) rfl rfl (by simp;omega);obtain⟨s1,hs1⟩:=eJ (txB (A++[124]));obtain⟨s2,hs2⟩:=eJ (txB ((A++[124])++B));rw[hs1] at add1 add2 n2;rw[hs2] at add2;rw[hs2];have HOP:=qh hop;replace hs1:=qh hs1;have Hhs2:=qh hs2;clear hs2;replace hA:=qh hA;have HhB:=qh hB;clear hB;have Hhpr:=qh hpr;clear hpr;have Hhm:=qh hm;clear hm;have hmk:=@run_makeMap Tryz.prog;clear h hP hcell hop ha hb hba hbb hla hlb
 go_enter Tryz.func117, Tryz.ntmps117
 go_wp2_with (first
  | (go_at_call 113;refine(ZaC 5 _ 1 rfl).mono ?_;rintro e w' ⟨rfl,rfl⟩)
  | (go_at_call 149;refine(HOP.out _ HS0.out.bel).mono ?_;rintro e w1 ⟨g,va,vb,rfl,hS,hPa,hPb⟩;have HS1:=qh (show St w w1 [Ent.box w.heap.size #[.int .i64 5,.int .i64 0] 59,Ent.row 40 1 (.slice (some ⟨g,0,none⟩) 2 2) 2 [va,vb]] from HS0.out.cat hS);have HPa:=qh hPa;have HPb:=qh hPb;have q0:=HS1.out.rcell (v:=va) 1 0 rfl (by omega) rfl;clear hS hPa hPb)
  | (go_at_call 150;(with_reducible refine(HA.out _ _ HPa.out).mono ?_);rintro e w2 ⟨rfl,hb2⟩;have HS2:=qh (HS1.out.call hb2);have HPb2:=qh (HPb.out.below hb2);have r0:=HS2.out.cell (v:=.int .i64 5) 0 0 rfl rfl;have r1:=HS2.out.cell (v:=.int .i64 0) 0 1 rfl rfl;obtain⟨w3,w4,w5,hmm,hu1,hu2,hu3,hlk,hmb⟩:=ZrE w2;have HS3:=qh (HS2.out.call hmb);have HPb3:=qh (HPb2.out.below hmb);have r3:=HS3.out.cell (v:=.int .i64 5) 0 0 rfl rfl;have r4:=HS3.out.rcell (v:=vb) 1 1 rfl (by omega) rfl;clear hb2 hmb)
  | (go_at_call 150;(with_reducible refine(HB.out _ _ HPb3.out).mono ?_);rintro e w6 ⟨rfl,hb6⟩;have HS4:=qh (HS3.out.call hb6);clear hb6))
 go_ret;exact⟨rfl,HS4.out.bel⟩
theorem ZmX (a b:Ex) (h60:(Ex.both a b).post.length≤60) (ha:BrkC a) (hb:BrkC b):ZhL (.both a b):=by
 intro v w h;have hP:=h;rw[show(Ex.both a b).post=(a.post++b.post)++[(6,0)] from rfl] at hP;obtain⟨bb,off,cap,rfl,hc1,hc2,hbl,hcell⟩:=Zdb hP
 have hpl:(a.post++b.post).length≤59:=by
  have h1:(Ex.both a b).post.length=(a.post++b.post).length+1:=by simp[Ex.post];omega
  omega
 have hla:=Za7 a;have hlb:=Za7 b;have hba:=ZaN 2 a (prE a);have hbb:=ZaN 3 b (prE b);have hab:a.post.length+b.post.length≤59:=by simpa using hpl
 have HS0:=qh ((St.start w).alloc w.heap.size rfl #[.int .i64 6,.int .i64 0] 59);have hop:=fun (u:World) (hu:Below w.heap.size w u)=>Zdp a b (.both a b) 6 0 rfl Zfj _ u h60 (h.below hu)
 obtain⟨m,hm⟩:=eI ((a.post++b.post).length);rw[← hm] at hc1 hcell hpl hop;rw[← hm];obtain⟨k1,k2⟩:=hcell w (Below.refl _ _);have hw1:IntKind.i64.wrap ((m:Int)+1-1)=(m:Int):=by rw[IntWalk.i64_in _ (by omega)];omega
 obtain⟨A,hA⟩:=eI (brk 2 a (prE a));obtain⟨B,hB⟩:=eI (brk 3 b (prE b));have hpr:prE (.both a b)=(A++[38])++B:=by rw[hA,hB];simp[prE]
 rw[hpr];have HA:=qh (fun (v:Value) (u:World) (hu:Pairs 0 u v a.post)=>(show Calls Tryz.prog 150 #[v,.int .i64 2] u fun e w'=>e = .returned (.string (txB A))∧Below u.heap.size u w' by have:=ha 2 v u hu;rw[← hA] at this;exact this));have HB:=qh (fun (v:Value) (u:World) (hu:Pairs 0 u v b.post)=>(show Calls Tryz.prog 150 #[v,.int .i64 3] u fun e w'=>e = .returned (.string (txB B))∧Below u.heap.size u w' by have:=hb 3 v u hu;rw[← hB] at this;exact this));rw[← hA] at hba;rw[← hB] at hbb;obtain⟨add1,n1⟩:=Zb4 A [38] (txB A) { data:=#[38] } rfl rfl (by simp;omega);obtain⟨add2,n2⟩:=Zb4 (A++[38]) B (txB (A++[38])) (txB B) rfl rfl (by simp;omega);obtain⟨s1,hs1⟩:=eJ (txB (A++[38]));obtain⟨s2,hs2⟩:=eJ (txB ((A++[38])++B));rw[hs1] at add1 add2 n2;rw[hs2] at add2;rw[hs2];have HOP:=qh hop;replace hs1:=qh hs1;have Hhs2:=qh hs2;clear hs2;replace hA:=qh hA;have HhB:=qh hB;clear hB;have Hhpr:=qh hpr;clear hpr;have Hhm:=qh hm;clear hm;have hmk:=@run_makeMap Tryz.prog;clear h hP hcell hop ha hb hba hbb hla hlb
 go_enter Tryz.func117, Tryz.ntmps117
 go_wp2_with (first
  | (go_at_call 113;refine(ZaC 6 _ 2 rfl).mono ?_;rintro e w' ⟨rfl,rfl⟩)
  | (go_at_call 149;refine(HOP.out _ HS0.out.bel).mono ?_;rintro e w1 ⟨g,va,vb,rfl,hS,hPa,hPb⟩;have HS1:=qh (show St w w1 [Ent.box w.heap.size #[.int .i64 6,.int .i64 0] 59,Ent.row 40 1 (.slice (some ⟨g,0,none⟩) 2 2) 2 [va,vb]] from HS0.out.cat hS);have HPa:=qh hPa;have HPb:=qh hPb;have q0:=HS1.out.rcell (v:=va) 1 0 rfl (by omega) rfl;clear hS hPa hPb)
  | (go_at_call 150;(with_reducible refine(HA.out _ _ HPa.out).mono ?_);rintro e w2 ⟨rfl,hb2⟩;have HS2:=qh (HS1.out.call hb2);have HPb2:=qh (HPb.out.below hb2);have r0:=HS2.out.cell (v:=.int .i64 6) 0 0 rfl rfl;have r1:=HS2.out.cell (v:=.int .i64 0) 0 1 rfl rfl;obtain⟨w3,w4,w5,hmm,hu1,hu2,hu3,hlk,hmb⟩:=ZrD w2;have HS3:=qh (HS2.out.call hmb);have HPb3:=qh (HPb2.out.below hmb);have r3:=HS3.out.cell (v:=.int .i64 6) 0 0 rfl rfl;have r4:=HS3.out.rcell (v:=vb) 1 1 rfl (by omega) rfl;clear hb2 hmb)
  | (go_at_call 150;(with_reducible refine(HB.out _ _ HPb3.out).mono ?_);rintro e w6 ⟨rfl,hb6⟩;have HS4:=qh (HS3.out.call hb6);clear hb6))
 go_ret;exact⟨rfl,HS4.out.bel⟩
theorem Zpl:∀ t:Ex,t.post.length≤60→ZhL t:=by
 intro t
 induction t with
 | zero=>exact fun _=>ZmU
 | one=>exact fun _=>Zph
 | ltr c=>exact fun _=>Zpj c
 | neg a ha=>intro h;have h1:a.post.length≤60:=by simp[Ex.post] at h;omega
             exact Zpi a h (ZfT a h1 (ha h1))
 | star a ha=>intro h;have h1:a.post.length≤60:=by simp[Ex.post] at h;omega
              exact ZmV a h (ZfT a h1 (ha h1))
 | join a b ha hb=>intro h;have h1:a.post.length≤60∧b.post.length≤60:=by simp[Ex.post] at h;omega
                   exact ZmW a b h (ZfT a h1.1 (ha h1.1)) (ZfT b h1.2 (hb h1.2))
 | alt a b ha hb=>intro h;have h1:a.post.length≤60∧b.post.length≤60:=by simp[Ex.post] at h;omega
                  exact Zpk a b h (ZfT a h1.1 (ha h1.1)) (ZfT b h1.2 (hb h1.2))
 | both a b ha hb=>intro h;have h1:a.post.length≤60∧b.post.length≤60:=by simp[Ex.post] at h;omega
                   exact ZmX a b h (ZfT a h1.1 (ha h1.1)) (ZfT b h1.2 (hb h1.2))
theorem Zdz (es:List (Int × Int)) (v:Value) (w:World) (h:Pairs 0 w v es) :
  Calls Tryz.prog 74 #[v] w fun e w'=>e = .returned (.string (txB (Zev es)))∧Below w.heap.size w w':=by
 cases hok:exOk es
 ·rw[Zf9 hok];have Hhok:=qh hok;clear hok
  go_enter Tryz.func74, Tryz.ntmps74
  go_wp2_with (go_at_call 56;refine(Za4 es _ _ h _ Hhok.out).mono ?_;rintro e w1 ⟨rfl,hb⟩;replace hb:=qh hb);go_ret;exact⟨rfl,hb.out⟩
 obtain⟨t,rfl,hl,ht⟩:=Zf8 hok;rw[ht];have HT:=qh (Zpl t hl);have Hh:=qh h;have Hhok:=qh hok;clear hok;have Hht:=qh ht;clear ht;clear h
 go_enter Tryz.func74, Tryz.ntmps74
 go_wp2_with (first
  | (go_at_call 56;refine(Za4 t.post _ _ Hh.out _ Hhok.out).mono ?_;rintro e w1 ⟨rfl,hb⟩;replace hb:=qh hb)
  | (go_at_call 117;refine(HT.out _ _ (Hh.out.below hb.out)).mono ?_;rintro e w2 ⟨rfl,hb2⟩;have Hb2:=qh hb2;clear hb2))
 go_ret;exact⟨rfl,hb.out.trans (Hb2.out.mono hb.out.size)⟩
end Go.Proofs.YtfgpkadhegdffaaGreat
