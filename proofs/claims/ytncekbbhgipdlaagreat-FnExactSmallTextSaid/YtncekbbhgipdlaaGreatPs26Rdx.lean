/-
  The walk over the program's operands, by the tree of the expression.
  Conditions: the expression reads as such, it has at most 60 parts.
-/
import Derived.Test.YtncekbbhgipdlaaGreatPs25Opp
set_option maxHeartbeats 8000000
set_option maxRecDepth 100000
namespace Go.Proofs.YtncekbbhgipdlaaGreat
open Go.RowKit
theorem ZbM {w:World} {v:Value} {pre:List (Int × Int)} {p:Int × Int} (h:Pairs 0 w v (pre++[p])):∃ b off cap,v = .slice (some ⟨b,off,none⟩) (pre.length+1) cap∧pre.length+1≤cap∧cap≤9223372036854775807∧b<w.heap.size ∧
  ∀ u,Below w.heap.size w u→u.cell? ⟨b,off+pre.length*2,none⟩=some (.int .i64 p.1)∧u.cell? ⟨b,off+pre.length*2+1,none⟩=some (.int .i64 p.2):=by
 obtain⟨a,cap,hv,h1,h2,h3⟩:=h.form;obtain⟨b,off,rfl,-,hb,hc⟩:=h3 (by simp);have hl:(pre++[p]).length=pre.length+1:=by simp
 rw[hl] at hv h1;obtain⟨c1,c2⟩:=hc pre.length (by simp);have e:(pre++[p]).getD pre.length (0,0)=p:=ZfR;rw[e] at c1 c2;exact⟨b,off,cap,hv,h1,h2,hb,fun u hu=>⟨(bcell hu b _ hb).trans c1,(bcell hu b _ hb).trans c2⟩⟩
theorem Zpa {es:List (Int × Int)} {w:World} {e:Ending} {w':World} (hok:exOk es=true) (h:RSt es es.length w e w'):∃ g b,e = .returned (.tuple #[.slice (some ⟨g,0,none⟩) es.length es.length,.bool b])∧St w w' [Ent.row 3 1 (.slice (some ⟨g,0,none⟩) es.length es.length) es.length (intCells (clsL es.length (begB es)))]:=by
 rcases h with⟨-,g,b,he,-,hS⟩|⟨hbad,-⟩
 ·exact⟨g,b,he,hS⟩
 exact absurd (ZfT.1 hok).1 hbad
theorem Zb3 (a b t:Ex) (k l:Int) (ht:t.post=a.post++b.post++[(k,l)]) (hk:Zae (k,l)=2) (v:Value) (w:World) (h60:t.post.length≤60) (h:Pairs 0 w v t.post) :
  Calls Tryz.prog 51 #[v] w fun e w'=>∃ g va vb,e = .returned (.slice (some ⟨g,0,none⟩) 2 2)∧St w w' [Ent.row 28 1 (.slice (some ⟨g,0,none⟩) 2 2) 2 [va,vb]]∧∀ u,Pairs 0 u v t.post→Pairs 0 u va a.post∧Pairs 0 u vb b.post:=by
 have hok:=Zau t h60;have hst:=qh (Zb5 t.post v w (by omega) h);have hbt:=ZpF a b (k,l);rw[← ht] at hbt;have hP:=h;rw[ht] at hP;obtain⟨bb,off,cap,rfl,hc1,hc2,hb,hcell⟩:=ZbM hP;have hpl:(a.post++b.post).length=a.post.length+b.post.length:=by simp
 have hal:=Zao a;have hbl:=Zao b;have htl:t.post.length=a.post.length+b.post.length+1:=by rw[ht];simp;omega
 rw[hpl] at hc1 hcell hst hP ⊢;have e1:(a.post++b.post++[(k,l)]).take a.post.length=a.post:=by rw[List.append_assoc,List.take_left]
 have e2:(a.post++b.post++[(k,l)]).drop a.post.length=b.post++[(k,l)]:=by rw[List.append_assoc,List.drop_left]
 have hPab:∀ u,Pairs 0 u (.slice (some ⟨bb,off,none⟩) (a.post.length+b.post.length+1) cap) t.post→Pairs 0 u (.slice (some ⟨bb,off,none⟩) a.post.length cap) a.post∧Pairs 0 u (.slice (some ⟨bb,off+a.post.length*2,none⟩) b.post.length (cap-a.post.length)) b.post:=fun u hu=>by
  rw[ht] at hu;have hPa:=hu.take (n:=a.post.length) (by simp);have hPd:=hu.drop (n:=a.post.length) (by simp);rw[e1] at hPa;rw[e2] at hPd;have hPb:=hPd.take (n:=b.post.length) (by simp);rw[List.take_left] at hPb;refine⟨hPa,?_⟩;have e3:a.post.length+b.post.length+1-a.post.length=b.post.length+1:=by omega
  exact hPb
 obtain⟨A,hA⟩:=eI (a.post.length);obtain⟨B,hB⟩:=eI (b.post.length);obtain⟨m,hm⟩:=eI (A+B);rw[← hA,← hB,← hm] at htl hc1 hcell hst hbt;rw[← hA,← hB,← hm] at hPab;rw[← hA] at hal;rw[← hB] at hbl;rw[← hA,← hB,← hm];have hst2:=hst;have Hcell:=qh hcell;have HPab:=qh hPab;have hw1:IntKind.i64.wrap ((m:Int)+1-1)=(m:Int):=by rw[IntWalk.i64_in _ (by omega)];omega
 have hw2:IntKind.i64.wrap ((m:Int)-1)=((m-1:Nat):Int):=by rw[IntWalk.i64_in _ (by omega)];omega
 have hm1:m-1<m+1:=by omega
 have hm2:((m-1:Nat):Int)<(m:Int)+1:=by omega
 have hbeg:(intCells (clsL (m+1) (begB t.post)))[m-1]? = some (.int .i64 (A:Int)):=by rw[ZaW _ (by omega),hbt]
 have Hbeg:=qh hbeg;have hmA:A+1≤m:=by omega
 have hmI:(A:Int)≤(m:Int):=by omega
 replace hm:=qh hm;replace hk:=qh hk;have Hhpl:=qh hpl;clear hpl;have Hhok:=qh hok;clear hok;replace hbt:=qh hbt;have Hhtl:=qh htl;clear htl;replace hA:=qh hA;have HhB:=qh hB;clear hB;have Hht:=qh ht;clear ht;clear hP hPab hcell e1 e2 h hst2 hbeg
 go_enter Tryz.func51, Tryz.ntmps51
 go_wp2_with (go_at_call 90;refine(hst.out).mono ?_;rintro e w1 hR;have h9:=Zpa Hhok.out hR;rw[Hhtl.out] at h9;obtain⟨g,bx,rfl,hS⟩:=h9;have k4:=hS.rcell (v:=.int .i64 (A:Int)) 0 (m-1) rfl (by omega) Hbeg.out;have HS:=qh hS;obtain⟨k2,k3⟩:=Hcell.out _ hS.bel;clear hR hS);refine(ZaL k l _ 2 hk.out (by omega)).mono ?_;rintro e w2 ⟨rfl,hb2⟩;have HS2:=qh (HS.out.call hb2);have k5:=HS2.out.rcell (v:=.int .i64 (A:Int)) 0 (m-1) rfl (by omega) Hbeg.out;have hne:(cap=A)=False:=by simp;omega
 have hBm:B=m-A:=by have:=hm.out;omega
 have hPb:=HPab.out;rw[hBm] at hPb;have HPb2:=qh hPb;have HhBm:=qh hBm;clear hBm;clear k2 k3 k4 hb2 hPb;go_wp2
 go_region
 go_wp2;have hS3:=(HS2.out.alloc w2.heap.size rfl #[.slice (some ⟨bb,off,none⟩) A cap,.slice (some ⟨bb,off+A*2,none⟩) (m-A) (cap-A)] 28).boxrow 1 2 1 [.slice (some ⟨bb,off,none⟩) A cap,.slice (some ⟨bb,off+A*2,none⟩) (m-A) (cap-A)] rfl rfl (by unfold maxLen;omega);go_ret;exact⟨_,_,_,rfl,hS3.drew.pick [1] (by decide),HPb2.out⟩
theorem Zg3 (a b t:Ex) (k l:Int) (ht:t.post=a.post++b.post++[(k,l)]) (hk:Zae (k,l)=2) (v:Value) (w:World) (h60:t.post.length≤60) (h:Pairs 0 w v t.post) :
  Calls Tryz.prog 51 #[v] w fun e w'=>∃ g va vb,e = .returned (.slice (some ⟨g,0,none⟩) 2 2)∧St w w' [Ent.row 28 1 (.slice (some ⟨g,0,none⟩) 2 2) 2 [va,vb]]∧Pairs 0 w va a.post∧Pairs 0 w vb b.post :=
 (Zb3 a b t k l ht hk v w h60 h).mono fun _ _ ⟨g,va,vb,he,hS,h1⟩=>⟨g,va,vb,he,hS,(h1 w h).1,(h1 w h).2⟩
theorem ZcK (a t:Ex) (k l:Int) (ht:t.post=a.post++[(k,l)]) (hk:Zae (k,l)=1) (v:Value) (w:World) (h60:t.post.length≤60) (h:Pairs 0 w v t.post) :
  Calls Tryz.prog 51 #[v] w fun e w'=>∃ g va,e = .returned (.slice (some ⟨g,0,none⟩) 1 1)∧St w w' [Ent.row 28 1 (.slice (some ⟨g,0,none⟩) 1 1) 1 [va]]∧∀ u,Pairs 0 u v t.post→Pairs 0 u va a.post:=by
 have hok:=Zau t h60;have hst:=qh (Zb5 t.post v w (by omega) h);have hP:=h;rw[ht] at hP;obtain⟨bb,off,cap,rfl,hc1,hc2,hb,hcell⟩:=ZbM hP;have hal:=Zao a;have htl:t.post.length=a.post.length+1:=by rw[ht];simp
 have hPa:∀ u,Pairs 0 u (.slice (some ⟨bb,off,none⟩) (a.post.length+1) cap) t.post→Pairs 0 u (.slice (some ⟨bb,off,none⟩) a.post.length cap) a.post:=fun u hu=>by rw[ht] at hu;have hPa:=hu.take (n:=a.post.length) (by simp);rw[List.take_left] at hPa;exact hPa
 obtain⟨m,hm⟩:=eI (a.post.length);rw[← hm] at htl hc1 hcell hst hPa hal;rw[← hm];have Hcell:=qh hcell;have HPa:=qh hPa;have hw1:IntKind.i64.wrap ((m:Int)+1-1)=(m:Int):=by rw[IntWalk.i64_in _ (by omega)];omega
 replace hk:=qh hk;have Hhok:=qh hok;clear hok;have Hhtl:=qh htl;clear htl;have Hhm:=qh hm;clear hm;have Hht:=qh ht;clear ht;clear hP hPa hcell h
 go_enter Tryz.func51, Tryz.ntmps51
 go_wp2_with (go_at_call 90;refine(hst.out).mono ?_;rintro e w1 hR;have h9:=Zpa Hhok.out hR;rw[Hhtl.out] at h9;obtain⟨g,bx,rfl,hS⟩:=h9;have HS:=qh hS;obtain⟨k2,k3⟩:=Hcell.out _ hS.bel;clear hR hS);refine(ZaL k l _ 1 hk.out (by omega)).mono ?_;rintro e w2 ⟨rfl,hb2⟩;have HS2:=qh (HS.out.call hb2);have hS3:=(HS2.out.alloc w2.heap.size rfl #[.slice (some ⟨bb,off,none⟩) m cap] 28).boxrow 1 1 1 [.slice (some ⟨bb,off,none⟩) m cap] rfl rfl (by unfold maxLen;omega);have HS3:=qh hS3;clear k2 k3 hb2 hS3;go_wp2;go_ret;exact⟨_,_,rfl,HS3.out.pick [1] (by decide),HPa.out⟩
theorem Zg4 (a t:Ex) (k l:Int) (ht:t.post=a.post++[(k,l)]) (hk:Zae (k,l)=1) (v:Value) (w:World) (h60:t.post.length≤60) (h:Pairs 0 w v t.post) :
  Calls Tryz.prog 51 #[v] w fun e w'=>∃ g va,e = .returned (.slice (some ⟨g,0,none⟩) 1 1)∧St w w' [Ent.row 28 1 (.slice (some ⟨g,0,none⟩) 1 1) 1 [va]]∧Pairs 0 w va a.post :=
 (ZcK a t k l ht hk v w h60 h).mono fun _ _ ⟨g,va,he,hS,h1⟩=>⟨g,va,he,hS,h1 w h⟩
theorem Zc7 (t:Ex) (k l:Int) (ht:t.post=[(k,l)]) (hk:Zae (k,l)=0) (v:Value) (w:World) (h:Pairs 0 w v t.post) :
  Calls Tryz.prog 51 #[v] w fun e w'=>e = .returned (.slice none 0 0)∧Below w.heap.size w w':=by
 have htl:t.post.length=1:=by rw[ht];rfl
 have hok:=Zau t (by omega);have hst:=qh (Zb5 t.post v w (by omega) h);rw[ht] at h;obtain⟨bb,off,cap,rfl,hc1,hc2,hb,hcell⟩:=ZbM (pre:=[]) h;simp only[List.length_nil,Nat.zero_add,Nat.zero_mul,Nat.add_zero] at hc1 hcell hst;simp only[List.length_nil,Nat.zero_add];have Hcell:=qh hcell;replace hk:=qh hk;have Hhok:=qh hok;clear hok;have Hhtl:=qh htl;clear htl;have Hht:=qh ht;clear ht;clear hcell h
 go_enter Tryz.func51, Tryz.ntmps51
 go_wp2_with (go_at_call 90;refine(hst.out).mono ?_;rintro e w1 hR;have h9:=Zpa Hhok.out hR;rw[Hhtl.out] at h9;obtain⟨g,bx,rfl,hS⟩:=h9;have HS:=qh hS;obtain⟨k2,k3⟩:=Hcell.out _ hS.bel;clear hR hS);refine(ZaL k l _ 0 hk.out (by omega)).mono ?_;rintro e w2 ⟨rfl,hb2⟩;have HS2:=qh (HS.out.call hb2);clear k2 k3 hb2;go_wp2;go_ret;exact⟨rfl,HS2.out.bel⟩
theorem Zc6 (a b t:Ex) (k l:Int) (ht:t.post=a.post++b.post++[(k,l)]) (hk:Zae (k,l)=2) (v:Value) (w:World) (h60:t.post.length≤60) (h:Pairs 0 w v t.post) :
  Calls Tryz.prog 51 #[v] w fun e w'=>∃ g va vb,e = .returned (.slice (some ⟨g,0,none⟩) 2 2)∧St w w' [Ent.row 28 1 (.slice (some ⟨g,0,none⟩) 2 2) 2 [va,vb]]∧Pairs 0 w' va a.post∧Pairs 0 w' vb b.post :=
 (Zg3 a b t k l ht hk v w h60 h).mono fun _ _ ⟨g,va,vb,he,hS,h1,h2⟩=>⟨g,va,vb,he,hS,h1.below hS.bel,h2.below hS.bel⟩
theorem Zek (a t:Ex) (k l:Int) (ht:t.post=a.post++[(k,l)]) (hk:Zae (k,l)=1) (v:Value) (w:World) (h60:t.post.length≤60) (h:Pairs 0 w v t.post) :
  Calls Tryz.prog 51 #[v] w fun e w'=>∃ g va,e = .returned (.slice (some ⟨g,0,none⟩) 1 1)∧St w w' [Ent.row 28 1 (.slice (some ⟨g,0,none⟩) 1 1) 1 [va]]∧Pairs 0 w' va a.post :=
 (Zg4 a t k l ht hk v w h60 h).mono fun _ _ ⟨g,va,he,hS,h1⟩=>⟨g,va,he,hS,h1.below hS.bel⟩
theorem Zlg (u v:List Nat):txB u++txB v=txB (u++v):=by apply ByteArray.ext;simp[txB,ByteArray.data_append]
theorem ZhQ (c:Nat) (hc:c<3):strOfNums [97+(c:Int)]=txB [97+c]:=by
 obtain rfl|rfl|rfl:c=0∨c=1∨c=2:=by omega
 all_goals rfl
theorem ZoM (c:Nat) (hc:c<3) (w:World) (b cap:Nat) (h:w.cell? ⟨b,0,none⟩=some (.int .u8 (97+(c:Int)))) :
  (convert 25 9 (.slice (some ⟨b,0,none⟩) 1 cap)).run Tryz.prog w = .ok (.string (txB [97+c])) w:=by
 rw[← ZhQ c hc]
 exact run_convert_bytes_arg w 25 5 Tryz.underlying25 Tryz.underlying5 b 0 1 cap [97+(c:Int)] rfl (fun i hi=>by
  obtain rfl:i=0:=by omega
  simpa using h) 9 Tryz.underlying9
theorem Zl1 (c:Nat) (hc:c<3):IntKind.u8.wrap (97+(c:Int))=97+(c:Int):=by
 obtain rfl|rfl|rfl:c=0∨c=1∨c=2:=by omega
 all_goals rfl
theorem ZbU (u v:List Nat) (bu bv:ByteArray) (hbu:bu=txB u) (hbv:bv=txB v) (hl:u.length+v.length≤1000000):(∀ w':World,(Op.stringOp .add bu bv).run Tryz.prog w' = .ok (.string (txB (u++v))) w')∧¬ 9223372036854775807<bu.size+bv.size:=by subst hbu;subst hbv;have h1:=ZaG u;have h2:=ZaG v;refine⟨fun w' => ?_,by omega⟩;rw[run_string_add_sum w' _ _ (by omega),Zlg]
theorem Zja:∀ t:Ex,∃ pre p,t.post=pre++[p]∧bnK p.1=(bnd t:Int)
 | .zero=>⟨[],(1,0),rfl,rfl⟩
 | .one=>⟨[],(2,0),rfl,rfl⟩
 | .ltr c=>⟨[],(3,(c.val:Int)),rfl,rfl⟩
 | .join a b=>⟨a.post++b.post,(4,0),rfl,rfl⟩
 | .alt a b=>⟨a.post++b.post,(5,0),rfl,rfl⟩
 | .both a b=>⟨a.post++b.post,(6,0),rfl,rfl⟩
 | .neg a=>⟨a.post,(7,0),rfl,rfl⟩
 | .star a=>⟨a.post,(8,0),rfl,rfl⟩
def Zfz (t:Ex):Prop:=∀ (v:Value) (w:World),Pairs 0 w v t.post→Calls Tryz.prog 22 #[v] w fun e w'=>e = .returned (.string (txB (prE t)))∧Below w.heap.size w w'
def BrkC (t:Ex):Prop:=∀ (l:Nat) (v:Value) (w:World),Pairs 0 w v t.post→Calls Tryz.prog 52 #[v,.int .i64 (l:Int)] w fun e w'=>e = .returned (.string (txB (brk l t (prE t))))∧Below w.heap.size w w'
theorem Zfl (t:Ex) (h60:t.post.length≤60) (hT:Zfz t):BrkC t:=by
 intro l v w h;have hx:=qh (hT v w h);obtain⟨pre,p,hpost,hb⟩:=Zja t;have hbd:=Zkh t;have hlen:=ZaY t;have h2:=h;rw[hpost] at h2;obtain⟨bb,off,cap,rfl,hc1,hc2,hbl,hcell⟩:=ZbM h2;have hpl:pre.length≤59:=by rw[hpost] at h60;simp at h60;omega
 obtain⟨m,hm⟩:=eI (pre.length);rw[← hm] at hc1 hcell hx hpl;rw[← hm];have hcw:=hcell w (Below.refl _ _);obtain⟨k1,k2⟩:=hcw;obtain⟨k,x⟩:=p;have hw1:IntKind.i64.wrap ((m:Int)+1-1)=(m:Int):=by rw[IntWalk.i64_in _ (by omega)];omega
 obtain⟨B,hB⟩:=eI (bnd t);rw[← hB] at hb hbd;obtain⟨T,hTT⟩:=eI (prE t);rw[← hTT] at hx hlen ⊢;have hbrk:brk l t T=if B<l then 40::(T++[41]) else T:=by rw[hB];rfl
 rw[hbrk];replace hb:=qh hb;replace hB:=qh hB;have Hhm:=qh hm;clear hm;have Hhpost:=qh hpost;clear hpost;have HhTT:=qh hTT;clear hTT;have Hhbrk:=qh hbrk;clear hbrk;clear h h2 hcell hT;by_cases hlt:B<l
 ·have hltI:(B:Int)<(l:Int):=by omega
  rw[if_pos hlt];obtain⟨add1,n1⟩:=ZbU [40] T { data:=#[40] } (txB T) rfl rfl (by simp;omega);obtain⟨add2,n2⟩:=ZbU ([40]++T) [41] (txB ([40]++T)) { data:=#[41] } rfl rfl (by simp;omega);have e2:[40]++T++[41]=40::(T++[41]):=by simp
  rw[e2] at add2;obtain⟨s1,hs1⟩:=eJ (txB ([40]++T));rw[hs1] at add1 add2 n2;have Hhs1:=qh hs1;clear hs1;replace e2:=qh e2
  go_enter Tryz.func52, Tryz.ntmps52
  go_wp2_with (first
   | (go_at_call 49;refine(ZaD k _ _ hb.out).mono ?_;rintro e w' ⟨rfl,rfl⟩)
   | (go_at_call 22;refine(hx.out).mono ?_;rintro e w1 ⟨rfl,hb1⟩))
  go_ret;exact⟨rfl,hb1⟩
 have hleI:(l:Int)≤(B:Int):=by omega
 rw[if_neg hlt];clear hlt
 go_enter Tryz.func52, Tryz.ntmps52
 go_wp2_with (first
  | (go_at_call 49;refine(ZaD k _ _ hb.out).mono ?_;rintro e w' ⟨rfl,rfl⟩)
  | (go_at_call 22;refine(hx.out).mono ?_;rintro e w1 ⟨rfl,hb1⟩))
 go_ret;exact⟨rfl,hb1⟩
theorem Zp9 (W:World):∃ w3 w4 w5,True∧(Instr.mapUpdate 74 (.map (some W.heap.size)) (.int .i64 4) (.string { data:=#[] })).run Tryz.prog (W.alloc (.map #[] 0)) = .ok () w3 ∧
  (Instr.mapUpdate 74 (.map (some W.heap.size)) (.int .i64 5) (.string { data:=#[124] })).run Tryz.prog w3 = .ok () w4∧(Instr.mapUpdate 74 (.map (some W.heap.size)) (.int .i64 6) (.string { data:=#[38] })).run Tryz.prog w4 = .ok () w5 ∧
  (Instr.lookup 74 (.map (some W.heap.size)) (.int .i64 4) false).run Tryz.prog w5 = .ok (.string { data:=#[] }) w5∧Below W.heap.size W w5:=by
 obtain⟨l4,h4⟩:=Tryz.keyOfInt 4 (by unfold fitI;omega);obtain⟨l5,h5⟩:=Tryz.keyOfInt 5 (by unfold fitI;omega);obtain⟨l6,h6⟩:=Tryz.keyOfInt 6 (by unfold fitI;omega);have HM:=MapL.made (P:=Tryz.prog) (kt:=3) (enc:=ZbO) W;obtain⟨w3,hr3,hm3,hg3⟩:=HM.store Tryz.lawInt ZaA Tryz.underlying74 h4 (.string { data:=#[] });obtain⟨w4,hr4,hm4,hg4⟩:=hm3.store Tryz.lawInt ZaA Tryz.underlying74 h5 (.string { data:=#[124] });obtain⟨w5,hr5,hm5,hg5⟩:=hm4.store Tryz.lawInt ZaA Tryz.underlying74 h6 (.string { data:=#[38] });have hlk:=hm5.lookup Tryz.lawInt ZaA Tryz.underlying74 (z:=.string { data:=#[] }) (by kernel_rfl) h4;refine⟨w3,w4,w5,trivial,hr3,hr4,hr5,hlk,?_⟩;have hb:∀ k,some W.heap.size=some k→W.heap.size≤k:=fun k hk=>by cases hk;exact Nat.le_refl _
 have b0:=(Below.refl W.heap.size W).alloc (Nat.le_refl _) (.map #[] 0);have b1:=b0.grown hg3 b0.size hb;have b2:=b1.grown hg4 b1.size hb;exact b2.grown hg5 b2.size hb
theorem Zp8 (W:World):∃ w3 w4 w5,True∧(Instr.mapUpdate 74 (.map (some W.heap.size)) (.int .i64 4) (.string { data:=#[] })).run Tryz.prog (W.alloc (.map #[] 0)) = .ok () w3 ∧
  (Instr.mapUpdate 74 (.map (some W.heap.size)) (.int .i64 5) (.string { data:=#[124] })).run Tryz.prog w3 = .ok () w4∧(Instr.mapUpdate 74 (.map (some W.heap.size)) (.int .i64 6) (.string { data:=#[38] })).run Tryz.prog w4 = .ok () w5 ∧
  (Instr.lookup 74 (.map (some W.heap.size)) (.int .i64 5) false).run Tryz.prog w5 = .ok (.string { data:=#[124] }) w5∧Below W.heap.size W w5:=by
 obtain⟨l4,h4⟩:=Tryz.keyOfInt 4 (by unfold fitI;omega);obtain⟨l5,h5⟩:=Tryz.keyOfInt 5 (by unfold fitI;omega);obtain⟨l6,h6⟩:=Tryz.keyOfInt 6 (by unfold fitI;omega);have HM:=MapL.made (P:=Tryz.prog) (kt:=3) (enc:=ZbO) W;obtain⟨w3,hr3,hm3,hg3⟩:=HM.store Tryz.lawInt ZaA Tryz.underlying74 h4 (.string { data:=#[] });obtain⟨w4,hr4,hm4,hg4⟩:=hm3.store Tryz.lawInt ZaA Tryz.underlying74 h5 (.string { data:=#[124] });obtain⟨w5,hr5,hm5,hg5⟩:=hm4.store Tryz.lawInt ZaA Tryz.underlying74 h6 (.string { data:=#[38] });have hlk:=hm5.lookup Tryz.lawInt ZaA Tryz.underlying74 (z:=.string { data:=#[] }) (by kernel_rfl) h5;refine⟨w3,w4,w5,trivial,hr3,hr4,hr5,hlk,?_⟩;have hb:∀ k,some W.heap.size=some k→W.heap.size≤k:=fun k hk=>by cases hk;exact Nat.le_refl _
 have b0:=(Below.refl W.heap.size W).alloc (Nat.le_refl _) (.map #[] 0);have b1:=b0.grown hg3 b0.size hb;have b2:=b1.grown hg4 b1.size hb;exact b2.grown hg5 b2.size hb
theorem Zp7 (W:World):∃ w3 w4 w5,True∧(Instr.mapUpdate 74 (.map (some W.heap.size)) (.int .i64 4) (.string { data:=#[] })).run Tryz.prog (W.alloc (.map #[] 0)) = .ok () w3 ∧
  (Instr.mapUpdate 74 (.map (some W.heap.size)) (.int .i64 5) (.string { data:=#[124] })).run Tryz.prog w3 = .ok () w4∧(Instr.mapUpdate 74 (.map (some W.heap.size)) (.int .i64 6) (.string { data:=#[38] })).run Tryz.prog w4 = .ok () w5 ∧
  (Instr.lookup 74 (.map (some W.heap.size)) (.int .i64 6) false).run Tryz.prog w5 = .ok (.string { data:=#[38] }) w5∧Below W.heap.size W w5:=by
 obtain⟨l4,h4⟩:=Tryz.keyOfInt 4 (by unfold fitI;omega);obtain⟨l5,h5⟩:=Tryz.keyOfInt 5 (by unfold fitI;omega);obtain⟨l6,h6⟩:=Tryz.keyOfInt 6 (by unfold fitI;omega);have HM:=MapL.made (P:=Tryz.prog) (kt:=3) (enc:=ZbO) W;obtain⟨w3,hr3,hm3,hg3⟩:=HM.store Tryz.lawInt ZaA Tryz.underlying74 h4 (.string { data:=#[] });obtain⟨w4,hr4,hm4,hg4⟩:=hm3.store Tryz.lawInt ZaA Tryz.underlying74 h5 (.string { data:=#[124] });obtain⟨w5,hr5,hm5,hg5⟩:=hm4.store Tryz.lawInt ZaA Tryz.underlying74 h6 (.string { data:=#[38] });have hlk:=hm5.lookup Tryz.lawInt ZaA Tryz.underlying74 (z:=.string { data:=#[] }) (by kernel_rfl) h6;refine⟨w3,w4,w5,trivial,hr3,hr4,hr5,hlk,?_⟩;have hb:∀ k,some W.heap.size=some k→W.heap.size≤k:=fun k hk=>by cases hk;exact Nat.le_refl _
 have b0:=(Below.refl W.heap.size W).alloc (Nat.le_refl _) (.map #[] 0);have b1:=b0.grown hg3 b0.size hb;have b2:=b1.grown hg4 b1.size hb;exact b2.grown hg5 b2.size hb
theorem Zl6:Zfz .zero:=by
 intro v w h;obtain⟨bb,off,cap,rfl,hc1,hc2,hbl,hcell⟩:=ZbM (pre:=[]) (p:=(1,0)) h;simp only[List.length_nil,Nat.zero_add,Nat.zero_mul,Nat.add_zero] at hc1 hcell;simp only[List.length_nil,Nat.zero_add];obtain⟨k1,k2⟩:=hcell w (Below.refl _ _);have HS0:=qh ((St.start w).alloc w.heap.size rfl #[.int .i64 1,.int .i64 0] 62);clear h hcell
 go_enter Tryz.func22, Tryz.ntmps22
 go_wp2_with (go_at_call 49;refine(ZaD 1 _ 6 rfl).mono ?_;rintro e w' ⟨rfl,rfl⟩);go_ret;exact⟨rfl,HS0.out.bel⟩
theorem ZnQ:Zfz .one:=by
 intro v w h;obtain⟨bb,off,cap,rfl,hc1,hc2,hbl,hcell⟩:=ZbM (pre:=[]) (p:=(2,0)) h;simp only[List.length_nil,Nat.zero_add,Nat.zero_mul,Nat.add_zero] at hc1 hcell;simp only[List.length_nil,Nat.zero_add];obtain⟨k1,k2⟩:=hcell w (Below.refl _ _);have HS0:=qh ((St.start w).alloc w.heap.size rfl #[.int .i64 2,.int .i64 0] 62);clear h hcell
 go_enter Tryz.func22, Tryz.ntmps22
 go_wp2_with (go_at_call 49;refine(ZaD 2 _ 6 rfl).mono ?_;rintro e w' ⟨rfl,rfl⟩);go_ret;exact⟨rfl,HS0.out.bel⟩
theorem ZnS (c:Fin 3):Zfz (.ltr c):=by
 intro v w h;obtain⟨c,hc⟩:=c;obtain⟨bb,off,cap,rfl,hc1,hc2,hbl,hcell⟩:=ZbM (pre:=[]) (p:=(3,(c:Int))) h;simp only[List.length_nil,Nat.zero_add,Nat.zero_mul,Nat.add_zero] at hc1 hcell;simp only[List.length_nil,Nat.zero_add];obtain⟨k1,k2⟩:=hcell w (Below.refl _ _);have HS0:=qh ((St.start w).alloc w.heap.size rfl #[.int .i64 3,.int .i64 (c:Int)] 62)
 have hpr:txB (prE (.ltr ⟨c,hc⟩))=wdB [c]:=by
  obtain rfl|rfl|rfl:c=0∨c=1∨c=2:=by omega
  all_goals rfl
 rw[hpr];replace hpr:=qh hpr;clear h hcell
 go_enter Tryz.func22, Tryz.ntmps22
 go_wp2_with (first
  | (go_at_call 49;refine(ZaD 3 _ 6 rfl).mono ?_;rintro e w' ⟨rfl,rfl⟩)
  | (go_at_call 50;refine(Zg5 c hc _).mono ?_;rintro e w' ⟨rfl,rfl⟩))
 go_ret;exact⟨rfl,HS0.out.bel⟩
theorem ZnR (a:Ex) (h60:(Ex.neg a).post.length≤60) (ha:BrkC a):Zfz (.neg a):=by
 intro v w h;have hP:=h;rw[show(Ex.neg a).post=a.post++[(7,0)] from rfl] at hP;obtain⟨bb,off,cap,rfl,hc1,hc2,hbl,hcell⟩:=ZbM hP;have hpl:a.post.length≤59:=by simp[Ex.post] at h60;omega
 have hla:=ZaY a;have hba:=ZaM 4 a (prE a);have HS0:=qh ((St.start w).alloc w.heap.size rfl #[.int .i64 7,.int .i64 0] 62);have hop:=fun (u:World) (hu:Below w.heap.size w u)=>Zek a (.neg a) 7 0 rfl Zgd _ u h60 (h.below hu)
 obtain⟨m,hm⟩:=eI (a.post.length);rw[← hm] at hc1 hcell hpl hop hla;rw[← hm];obtain⟨k1,k2⟩:=hcell w (Below.refl _ _);have hw1:IntKind.i64.wrap ((m:Int)+1-1)=(m:Int):=by rw[IntWalk.i64_in _ (by omega)];omega
 obtain⟨A,hA⟩:=eI (brk 4 a (prE a));have hpr:prE (.neg a)=[33]++A:=by rw[hA];simp[prE]
 rw[hpr];have HA:=qh (fun (v:Value) (u:World) (hu:Pairs 0 u v a.post)=>by have:=ha 4 v u hu;rw[← hA] at this;exact this);rw[← hA] at hba;obtain⟨add1,n1⟩:=ZbU [33] A { data:=#[33] } (txB A) rfl rfl (by simp;omega);obtain⟨s1,hs1⟩:=eJ (txB ([33]++A));rw[hs1] at add1;rw[hs1];have HOP:=qh hop;replace hs1:=qh hs1;replace hA:=qh hA;have Hhpr:=qh hpr;clear hpr;have Hhm:=qh hm;clear hm;clear h hP hcell hop ha hba hla
 go_enter Tryz.func22, Tryz.ntmps22
 go_wp2_with (first
  | (go_at_call 49;refine(ZaD 7 _ 4 rfl).mono ?_;rintro e w' ⟨rfl,rfl⟩)
  | (go_at_call 51;refine(HOP.out _ HS0.out.bel).mono ?_;rintro e w1 ⟨g,va,rfl,hS,hPa⟩;have HS1:=qh (show St w w1 [Ent.box w.heap.size #[.int .i64 7,.int .i64 0] 62,Ent.row 28 1 (.slice (some ⟨g,0,none⟩) 1 1) 1 [va]] from HS0.out.cat hS);have HPa:=qh hPa;have q0:=HS1.out.rcell (v:=va) 1 0 rfl (by omega) rfl;clear hS hPa)
  | (go_at_call 52;refine(HA.out _ _ HPa.out).mono ?_;rintro e w2 ⟨rfl,hb2⟩;have HS2:=qh (HS1.out.call hb2);have r0:=HS2.out.cell (v:=.int .i64 7) 0 0 rfl rfl;clear hb2))
 go_ret;exact⟨rfl,HS2.out.bel⟩
theorem Zl7 (a:Ex) (h60:(Ex.star a).post.length≤60) (ha:BrkC a):Zfz (.star a):=by
 intro v w h;have hP:=h;rw[show(Ex.star a).post=a.post++[(8,0)] from rfl] at hP;obtain⟨bb,off,cap,rfl,hc1,hc2,hbl,hcell⟩:=ZbM hP;have hpl:a.post.length≤59:=by simp[Ex.post] at h60;omega
 have hla:=ZaY a;have hba:=ZaM 5 a (prE a);have HS0:=qh ((St.start w).alloc w.heap.size rfl #[.int .i64 8,.int .i64 0] 62);have hop:=fun (u:World) (hu:Below w.heap.size w u)=>Zek a (.star a) 8 0 rfl Zd1 _ u h60 (h.below hu)
 obtain⟨m,hm⟩:=eI (a.post.length);rw[← hm] at hc1 hcell hpl hop hla;rw[← hm];obtain⟨k1,k2⟩:=hcell w (Below.refl _ _);have hw1:IntKind.i64.wrap ((m:Int)+1-1)=(m:Int):=by rw[IntWalk.i64_in _ (by omega)];omega
 obtain⟨A,hA⟩:=eI (brk 5 a (prE a));have hpr:prE (.star a)=A++[42]:=by rw[hA];simp[prE]
 rw[hpr];have HA:=qh (fun (v:Value) (u:World) (hu:Pairs 0 u v a.post)=>by have:=ha 5 v u hu;rw[← hA] at this;exact this);rw[← hA] at hba;obtain⟨add1,n1⟩:=ZbU A [42] (txB A) { data:=#[42] } rfl rfl (by simp;omega);obtain⟨s1,hs1⟩:=eJ (txB (A++[42]));rw[hs1] at add1;rw[hs1];have HOP:=qh hop;replace hs1:=qh hs1;replace hA:=qh hA;have Hhpr:=qh hpr;clear hpr;have Hhm:=qh hm;clear hm;clear h hP hcell hop ha hba hla
 go_enter Tryz.func22, Tryz.ntmps22
 go_wp2_with (first
  | (go_at_call 49;refine(ZaD 8 _ 5 rfl).mono ?_;rintro e w' ⟨rfl,rfl⟩)
  | (go_at_call 51;refine(HOP.out _ HS0.out.bel).mono ?_;rintro e w1 ⟨g,va,rfl,hS,hPa⟩;have HS1:=qh (show St w w1 [Ent.box w.heap.size #[.int .i64 8,.int .i64 0] 62,Ent.row 28 1 (.slice (some ⟨g,0,none⟩) 1 1) 1 [va]] from HS0.out.cat hS);have HPa:=qh hPa;have q0:=HS1.out.rcell (v:=va) 1 0 rfl (by omega) rfl;clear hS hPa)
  | (go_at_call 52;refine(HA.out _ _ HPa.out).mono ?_;rintro e w2 ⟨rfl,hb2⟩;have HS2:=qh (HS1.out.call hb2);have r0:=HS2.out.cell (v:=.int .i64 8) 0 0 rfl rfl;clear hb2))
 go_ret;exact⟨rfl,HS2.out.bel⟩
theorem Zl8 (a b:Ex) (h60:(Ex.join a b).post.length≤60) (ha:BrkC a) (hb:BrkC b):Zfz (.join a b):=by
 intro v w h;have hP:=h;rw[show(Ex.join a b).post=(a.post++b.post)++[(4,0)] from rfl] at hP;obtain⟨bb,off,cap,rfl,hc1,hc2,hbl,hcell⟩:=ZbM hP
 have hpl:(a.post++b.post).length≤59:=by
  have h1:(Ex.join a b).post.length=(a.post++b.post).length+1:=by simp[Ex.post];omega
  omega
 have hla:=ZaY a;have hlb:=ZaY b;have hba:=ZaM 3 a (prE a);have hbb:=ZaM 4 b (prE b);have hab:a.post.length+b.post.length≤59:=by simpa using hpl
 have HS0:=qh ((St.start w).alloc w.heap.size rfl #[.int .i64 4,.int .i64 0] 62);have hop:=fun (u:World) (hu:Below w.heap.size w u)=>Zc6 a b (.join a b) 4 0 rfl Zd2 _ u h60 (h.below hu)
 obtain⟨m,hm⟩:=eI ((a.post++b.post).length);rw[← hm] at hc1 hcell hpl hop;rw[← hm];obtain⟨k1,k2⟩:=hcell w (Below.refl _ _);have hw1:IntKind.i64.wrap ((m:Int)+1-1)=(m:Int):=by rw[IntWalk.i64_in _ (by omega)];omega
 obtain⟨A,hA⟩:=eI (brk 3 a (prE a));obtain⟨B,hB⟩:=eI (brk 4 b (prE b));have hpr:prE (.join a b)=(A++[])++B:=by rw[hA,hB];simp[prE]
 rw[hpr];have HA:=qh (fun (v:Value) (u:World) (hu:Pairs 0 u v a.post)=>(show Calls Tryz.prog 52 #[v,.int .i64 3] u fun e w'=>e = .returned (.string (txB A))∧Below u.heap.size u w' by have:=ha 3 v u hu;rw[← hA] at this;exact this));have HB:=qh (fun (v:Value) (u:World) (hu:Pairs 0 u v b.post)=>(show Calls Tryz.prog 52 #[v,.int .i64 4] u fun e w'=>e = .returned (.string (txB B))∧Below u.heap.size u w' by have:=hb 4 v u hu;rw[← hB] at this;exact this));rw[← hA] at hba;rw[← hB] at hbb;obtain⟨add1,n1⟩:=ZbU A [] (txB A) { data:=#[] } rfl rfl (by simp;omega);obtain⟨add2,n2⟩:=ZbU (A++[]) B (txB (A++[])) (txB B) rfl rfl (by simp;omega);obtain⟨s1,hs1⟩:=eJ (txB (A++[]));obtain⟨s2,hs2⟩:=eJ (txB ((A++[])++B));rw[hs1] at add1 add2 n2;rw[hs2] at add2;rw[hs2];have HOP:=qh hop;replace hs1:=qh hs1;have Hhs2:=qh hs2;clear hs2;replace hA:=qh hA;have HhB:=qh hB;clear hB;have Hhpr:=qh hpr;clear hpr;have Hhm:=qh hm;clear hm;have hmk:=@run_makeMap Tryz.prog;clear h hP hcell hop ha hb hba hbb hla hlb
 go_enter Tryz.func22, Tryz.ntmps22
 go_wp2_with (first
  | (go_at_call 49;refine(ZaD 4 _ 3 rfl).mono ?_;rintro e w' ⟨rfl,rfl⟩)
  | (go_at_call 51;refine(HOP.out _ HS0.out.bel).mono ?_;rintro e w1 ⟨g,va,vb,rfl,hS,hPa,hPb⟩;have HS1:=qh (show St w w1 [Ent.box w.heap.size #[.int .i64 4,.int .i64 0] 62,Ent.row 28 1 (.slice (some ⟨g,0,none⟩) 2 2) 2 [va,vb]] from HS0.out.cat hS);have HPa:=qh hPa;have HPb:=qh hPb;have q0:=HS1.out.rcell (v:=va) 1 0 rfl (by omega) rfl;clear hS hPa hPb)
  | (go_at_call 52;(with_reducible refine(HA.out _ _ HPa.out).mono ?_);rintro e w2 ⟨rfl,hb2⟩;have HS2:=qh (HS1.out.call hb2);have HPb2:=qh (HPb.out.below hb2);have r0:=HS2.out.cell (v:=.int .i64 4) 0 0 rfl rfl;have r1:=HS2.out.cell (v:=.int .i64 0) 0 1 rfl rfl;obtain⟨w3,w4,w5,hmm,hu1,hu2,hu3,hlk,hmb⟩:=Zp9 w2;have HS3:=qh (HS2.out.call hmb);have HPb3:=qh (HPb2.out.below hmb);have r3:=HS3.out.cell (v:=.int .i64 4) 0 0 rfl rfl;have r4:=HS3.out.rcell (v:=vb) 1 1 rfl (by omega) rfl;clear hb2 hmb)
  | (go_at_call 52;(with_reducible refine(HB.out _ _ HPb3.out).mono ?_);rintro e w6 ⟨rfl,hb6⟩;have HS4:=qh (HS3.out.call hb6);clear hb6))
 go_ret;exact⟨rfl,HS4.out.bel⟩
theorem ZnT (a b:Ex) (h60:(Ex.alt a b).post.length≤60) (ha:BrkC a) (hb:BrkC b):Zfz (.alt a b):=by
 intro v w h;have hP:=h;rw[show(Ex.alt a b).post=(a.post++b.post)++[(5,0)] from rfl] at hP;obtain⟨bb,off,cap,rfl,hc1,hc2,hbl,hcell⟩:=ZbM hP
 have hpl:(a.post++b.post).length≤59:=by
  have h1:(Ex.alt a b).post.length=(a.post++b.post).length+1:=by simp[Ex.post];omega
  omega
 have hla:=ZaY a;have hlb:=ZaY b;have hba:=ZaM 1 a (prE a);have hbb:=ZaM 2 b (prE b);have hab:a.post.length+b.post.length≤59:=by simpa using hpl
 have HS0:=qh ((St.start w).alloc w.heap.size rfl #[.int .i64 5,.int .i64 0] 62);have hop:=fun (u:World) (hu:Below w.heap.size w u)=>Zc6 a b (.alt a b) 5 0 rfl Zge _ u h60 (h.below hu)
 obtain⟨m,hm⟩:=eI ((a.post++b.post).length);rw[← hm] at hc1 hcell hpl hop;rw[← hm];obtain⟨k1,k2⟩:=hcell w (Below.refl _ _);have hw1:IntKind.i64.wrap ((m:Int)+1-1)=(m:Int):=by rw[IntWalk.i64_in _ (by omega)];omega
 obtain⟨A,hA⟩:=eI (brk 1 a (prE a));obtain⟨B,hB⟩:=eI (brk 2 b (prE b));have hpr:prE (.alt a b)=(A++[124])++B:=by rw[hA,hB];simp[prE]
 rw[hpr];have HA:=qh (fun (v:Value) (u:World) (hu:Pairs 0 u v a.post)=>(show Calls Tryz.prog 52 #[v,.int .i64 1] u fun e w'=>e = .returned (.string (txB A))∧Below u.heap.size u w' by have:=ha 1 v u hu;rw[← hA] at this;exact this));have HB:=qh (fun (v:Value) (u:World) (hu:Pairs 0 u v b.post)=>(show Calls Tryz.prog 52 #[v,.int .i64 2] u fun e w'=>e = .returned (.string (txB B))∧Below u.heap.size u w' by have:=hb 2 v u hu;rw[← hB] at this;exact this));rw[← hA] at hba;rw[← hB] at hbb;obtain⟨add1,n1⟩:=ZbU A [124] (txB A) { data:=#[124] } rfl rfl (by simp;omega);obtain⟨add2,n2⟩:=ZbU (A++[124]) B (txB (A++[124])) (txB B) rfl rfl (by simp;omega);obtain⟨s1,hs1⟩:=eJ (txB (A++[124]));obtain⟨s2,hs2⟩:=eJ (txB ((A++[124])++B));rw[hs1] at add1 add2 n2;rw[hs2] at add2;rw[hs2];have HOP:=qh hop;replace hs1:=qh hs1;have Hhs2:=qh hs2;clear hs2;replace hA:=qh hA;have HhB:=qh hB;clear hB;have Hhpr:=qh hpr;clear hpr;have Hhm:=qh hm;clear hm;have hmk:=@run_makeMap Tryz.prog;clear h hP hcell hop ha hb hba hbb hla hlb
 go_enter Tryz.func22, Tryz.ntmps22
 go_wp2_with (first
  | (go_at_call 49;refine(ZaD 5 _ 1 rfl).mono ?_;rintro e w' ⟨rfl,rfl⟩)
  | (go_at_call 51;refine(HOP.out _ HS0.out.bel).mono ?_;rintro e w1 ⟨g,va,vb,rfl,hS,hPa,hPb⟩;have HS1:=qh (show St w w1 [Ent.box w.heap.size #[.int .i64 5,.int .i64 0] 62,Ent.row 28 1 (.slice (some ⟨g,0,none⟩) 2 2) 2 [va,vb]] from HS0.out.cat hS);have HPa:=qh hPa;have HPb:=qh hPb;have q0:=HS1.out.rcell (v:=va) 1 0 rfl (by omega) rfl;clear hS hPa hPb)
  | (go_at_call 52;(with_reducible refine(HA.out _ _ HPa.out).mono ?_);rintro e w2 ⟨rfl,hb2⟩;have HS2:=qh (HS1.out.call hb2);have HPb2:=qh (HPb.out.below hb2);have r0:=HS2.out.cell (v:=.int .i64 5) 0 0 rfl rfl;have r1:=HS2.out.cell (v:=.int .i64 0) 0 1 rfl rfl;obtain⟨w3,w4,w5,hmm,hu1,hu2,hu3,hlk,hmb⟩:=Zp8 w2;have HS3:=qh (HS2.out.call hmb);have HPb3:=qh (HPb2.out.below hmb);have r3:=HS3.out.cell (v:=.int .i64 5) 0 0 rfl rfl;have r4:=HS3.out.rcell (v:=vb) 1 1 rfl (by omega) rfl;clear hb2 hmb)
  | (go_at_call 52;(with_reducible refine(HB.out _ _ HPb3.out).mono ?_);rintro e w6 ⟨rfl,hb6⟩;have HS4:=qh (HS3.out.call hb6);clear hb6))
 go_ret;exact⟨rfl,HS4.out.bel⟩
theorem Zl9 (a b:Ex) (h60:(Ex.both a b).post.length≤60) (ha:BrkC a) (hb:BrkC b):Zfz (.both a b):=by
 intro v w h;have hP:=h;rw[show(Ex.both a b).post=(a.post++b.post)++[(6,0)] from rfl] at hP;obtain⟨bb,off,cap,rfl,hc1,hc2,hbl,hcell⟩:=ZbM hP
 have hpl:(a.post++b.post).length≤59:=by
  have h1:(Ex.both a b).post.length=(a.post++b.post).length+1:=by simp[Ex.post];omega
  omega
 have hla:=ZaY a;have hlb:=ZaY b;have hba:=ZaM 2 a (prE a);have hbb:=ZaM 3 b (prE b);have hab:a.post.length+b.post.length≤59:=by simpa using hpl
 have HS0:=qh ((St.start w).alloc w.heap.size rfl #[.int .i64 6,.int .i64 0] 62);have hop:=fun (u:World) (hu:Below w.heap.size w u)=>Zc6 a b (.both a b) 6 0 rfl Zd3 _ u h60 (h.below hu)
 obtain⟨m,hm⟩:=eI ((a.post++b.post).length);rw[← hm] at hc1 hcell hpl hop;rw[← hm];obtain⟨k1,k2⟩:=hcell w (Below.refl _ _);have hw1:IntKind.i64.wrap ((m:Int)+1-1)=(m:Int):=by rw[IntWalk.i64_in _ (by omega)];omega
 obtain⟨A,hA⟩:=eI (brk 2 a (prE a));obtain⟨B,hB⟩:=eI (brk 3 b (prE b));have hpr:prE (.both a b)=(A++[38])++B:=by rw[hA,hB];simp[prE]
 rw[hpr];have HA:=qh (fun (v:Value) (u:World) (hu:Pairs 0 u v a.post)=>(show Calls Tryz.prog 52 #[v,.int .i64 2] u fun e w'=>e = .returned (.string (txB A))∧Below u.heap.size u w' by have:=ha 2 v u hu;rw[← hA] at this;exact this));have HB:=qh (fun (v:Value) (u:World) (hu:Pairs 0 u v b.post)=>(show Calls Tryz.prog 52 #[v,.int .i64 3] u fun e w'=>e = .returned (.string (txB B))∧Below u.heap.size u w' by have:=hb 3 v u hu;rw[← hB] at this;exact this));rw[← hA] at hba;rw[← hB] at hbb;obtain⟨add1,n1⟩:=ZbU A [38] (txB A) { data:=#[38] } rfl rfl (by simp;omega);obtain⟨add2,n2⟩:=ZbU (A++[38]) B (txB (A++[38])) (txB B) rfl rfl (by simp;omega);obtain⟨s1,hs1⟩:=eJ (txB (A++[38]));obtain⟨s2,hs2⟩:=eJ (txB ((A++[38])++B));rw[hs1] at add1 add2 n2;rw[hs2] at add2;rw[hs2];have HOP:=qh hop;replace hs1:=qh hs1;have Hhs2:=qh hs2;clear hs2;replace hA:=qh hA;have HhB:=qh hB;clear hB;have Hhpr:=qh hpr;clear hpr;have Hhm:=qh hm;clear hm;have hmk:=@run_makeMap Tryz.prog;clear h hP hcell hop ha hb hba hbb hla hlb
 go_enter Tryz.func22, Tryz.ntmps22
 go_wp2_with (first
  | (go_at_call 49;refine(ZaD 6 _ 2 rfl).mono ?_;rintro e w' ⟨rfl,rfl⟩)
  | (go_at_call 51;refine(HOP.out _ HS0.out.bel).mono ?_;rintro e w1 ⟨g,va,vb,rfl,hS,hPa,hPb⟩;have HS1:=qh (show St w w1 [Ent.box w.heap.size #[.int .i64 6,.int .i64 0] 62,Ent.row 28 1 (.slice (some ⟨g,0,none⟩) 2 2) 2 [va,vb]] from HS0.out.cat hS);have HPa:=qh hPa;have HPb:=qh hPb;have q0:=HS1.out.rcell (v:=va) 1 0 rfl (by omega) rfl;clear hS hPa hPb)
  | (go_at_call 52;(with_reducible refine(HA.out _ _ HPa.out).mono ?_);rintro e w2 ⟨rfl,hb2⟩;have HS2:=qh (HS1.out.call hb2);have HPb2:=qh (HPb.out.below hb2);have r0:=HS2.out.cell (v:=.int .i64 6) 0 0 rfl rfl;have r1:=HS2.out.cell (v:=.int .i64 0) 0 1 rfl rfl;obtain⟨w3,w4,w5,hmm,hu1,hu2,hu3,hlk,hmb⟩:=Zp7 w2;have HS3:=qh (HS2.out.call hmb);have HPb3:=qh (HPb2.out.below hmb);have r3:=HS3.out.cell (v:=.int .i64 6) 0 0 rfl rfl;have r4:=HS3.out.rcell (v:=vb) 1 1 rfl (by omega) rfl;clear hb2 hmb)
  | (go_at_call 52;(with_reducible refine(HB.out _ _ HPb3.out).mono ?_);rintro e w6 ⟨rfl,hb6⟩;have HS4:=qh (HS3.out.call hb6);clear hb6))
 go_ret;exact⟨rfl,HS4.out.bel⟩
theorem ZhM:∀ t:Ex,t.post.length≤60→Zfz t:=by
 intro t
 induction t with
 | zero=>exact fun _=>Zl6
 | one=>exact fun _=>ZnQ
 | ltr c=>exact fun _=>ZnS c
 | neg a ha=>intro h;have h1:a.post.length≤60:=by simp[Ex.post] at h;omega
             exact ZnR a h (Zfl a h1 (ha h1))
 | star a ha=>intro h;have h1:a.post.length≤60:=by simp[Ex.post] at h;omega
              exact Zl7 a h (Zfl a h1 (ha h1))
 | join a b ha hb=>intro h;have h1:a.post.length≤60∧b.post.length≤60:=by simp[Ex.post] at h;omega
                   exact Zl8 a b h (Zfl a h1.1 (ha h1.1)) (Zfl b h1.2 (hb h1.2))
 | alt a b ha hb=>intro h;have h1:a.post.length≤60∧b.post.length≤60:=by simp[Ex.post] at h;omega
                  exact ZnT a b h (Zfl a h1.1 (ha h1.1)) (Zfl b h1.2 (hb h1.2))
 | both a b ha hb=>intro h;have h1:a.post.length≤60∧b.post.length≤60:=by simp[Ex.post] at h;omega
                   exact Zl9 a b h (Zfl a h1.1 (ha h1.1)) (Zfl b h1.2 (hb h1.2))
theorem Zdf (es:List (Int × Int)) (v:Value) (w:World) (h:Pairs 0 w v es) :
  Calls Tryz.prog 31 #[v] w fun e w'=>e = .returned (.string (txB (ZdQ es)))∧Below w.heap.size w w':=by
 cases hok:exOk es
 ·rw[ZfD hok];have Hhok:=qh hok;clear hok
  go_enter Tryz.func31, Tryz.ntmps31
  go_wp2_with (go_at_call 74;refine(ZcV es _ _ h _ Hhok.out).mono ?_;rintro e w1 ⟨rfl,hb⟩;replace hb:=qh hb);go_ret;exact⟨rfl,hb.out⟩
 obtain⟨t,rfl,hl,ht⟩:=ZfC hok;rw[ht];have HT:=qh (ZhM t hl);have Hh:=qh h;have Hhok:=qh hok;clear hok;have Hht:=qh ht;clear ht;clear h
 go_enter Tryz.func31, Tryz.ntmps31
 go_wp2_with (first
  | (go_at_call 74;refine(ZcV t.post _ _ Hh.out _ Hhok.out).mono ?_;rintro e w1 ⟨rfl,hb⟩;replace hb:=qh hb)
  | (go_at_call 22;refine(HT.out _ _ (Hh.out.below hb.out)).mono ?_;rintro e w2 ⟨rfl,hb2⟩;have Hb2:=qh hb2;clear hb2))
 go_ret;exact⟨rfl,hb.out.trans (Hb2.out.mono hb.out.size)⟩
theorem Zo9 {l m:List Nat} (hl:isT l) (hm:isT m) (h:txB l=txB m):l=m:=by
 have h1:=congrArg (fun s:ByteArray=>s.data.toList) h;simp only[txB] at h1
 have h2:∀ (l m:List Nat),isT l→isT m→l.map UInt8.ofNat=m.map UInt8.ofNat→l=m:=by
  intro l
  induction l with
  | nil =>
   intro m _ _ h;cases m with
   | nil=>rfl
   | cons=>simp at h
  | cons a l ih =>
   intro m hl hm h;cases m with
   | nil=>simp at h
   | cons b m =>obtain⟨hl1,ha⟩:=Zck hl;obtain⟨hm1,hb⟩:=Zck hm;simp only[List.map_cons,List.cons.injEq] at h;have h3:=congrArg UInt8.toNat h.1;rw[UInt8.toNat_ofNat',UInt8.toNat_ofNat'] at h3;rw[show a=b by omega,ih m hl1 hm1 h.2]
 exact h2 l m hl hm (by simpa using h1)
theorem Zl4 {l m:List Nat} (hl:isT l) (hm:isT m) (h:l≠m):((txB l).toList==(txB m).toList)=false:=by rw[beq_eq_false_iff_ne];intro h1;rw[ByteArray.toList_eq,ByteArray.toList_eq] at h1;exact h (Zo9 hl hm (ByteArray.ext (Array.ext' h1)))
theorem ZiG (es:List (Int × Int)):isT (ZdQ es):=fun c hc=>Zpv ((ZhN es).1 c hc)
def RRe (s:List Nat) (w:World) (e:Ending) (w':World):Prop:=(Zch s=none∧e = .returned (.tuple #[.slice none 0 0,.bool false])∧Below w.heap.size w w') ∨
 (∃ es a c,Zch s=some es∧e = .returned (.tuple #[.slice a es.length c,.bool true])∧St w w' [Ent.row 62 2 (.slice a es.length c) es.length (es.flatMap Zaa)])
theorem Zfq (s:List Nat) (w:World) (ht:isT s):Calls Tryz.prog 12 #[.string (txB s)] w fun e w'=>RRe s w e w':=by
 have hs:=ZaG s;by_cases hl:120<s.length
 ·have hl2:(120:Int)<s.length:=by omega
  have hno:=Zhp hl;replace hno:=qh hno
  go_enter Tryz.func12, Tryz.ntmps12
  go_wp2;refine bodyPost_ret (v:=.tuple #[.slice none 0 0,.bool false]) (by simp[results,Tryz.results12,go_sem]) rfl ?_;exact .inl ⟨hno.out,rfl,Below.refl _ _⟩
 have hl2:(s.length:Int)≤120:=by omega
 have hr:=Zkx ZoZ (Nat.le_refl (fuP 1 s)) (show s.length≤120 by omega);have hS0:St w _ [Ent.box w.heap.size #[.string (txB s),.bool false] 54,Ent.nil]:=((St.start w).alloc w.heap.size rfl #[.string (txB s),.bool false] 54).add (Below.refl _ _) Ent.nil trivial (fun k hk=>hk.elim);have hL:=(Zhn (fuP 1 s)).2.2 1 s w.heap.size w _ Ent.nil (by omega) (by omega) (Nat.le_refl _) (by omega) ht hS0;have hm:=Zc4 jI (fuP 1 s) 1 s;obtain⟨x,hx⟩:=eJ (rdP jI (fuP 1 s) 1 s);rw[hx] at hL hr hm;obtain⟨es,q,fl⟩:=x;have HL:=qh hL;have Hht:=qh ht;have Hr:=qh hr;have Hhx:=qh hx;clear hx;clear hL hr hm hS0 hl;cases fl with
 | true =>
  have hno:Zch s=none:=by rw[Hr.out];exact if_neg (fun h=>by cases h.1)
  replace hno:=qh hno
  go_enter Tryz.func12, Tryz.ntmps12
  go_wp2_with (go_at_call 30;refine(HL.out).mono ?_;rintro e w1 ⟨a1,c1,r1,rfl,hr1,hl1,ht1,hS1⟩;have HS1:=qh hS1;have k0:=hS1.cell (v:=.string (txB r1)) 0 0 rfl rfl;have k1:=hS1.cell (v:=.bool true) 0 1 rfl rfl;clear hS1);refine bodyPost_ret (v:=.tuple #[.slice none 0 0,.bool false]) (by simp[results,Tryz.results12,go_sem]) rfl ?_;exact .inl ⟨hno.out,rfl,HS1.out.bel⟩
 | false =>
  cases q with
  | cons d q =>
   have hno:Zch s=none:=by rw[Hr.out];exact if_neg (fun h=>by cases h.2.1)
   have he:=ZdF (d::q);simp only[List.isEmpty_cons] at he;replace hno:=qh hno
   go_enter Tryz.func12, Tryz.ntmps12
   go_wp2_with (go_at_call 30;refine(HL.out).mono ?_;rintro e w1 ⟨a1,c1,r1,rfl,hr1,hl1,ht1,hS1⟩;have hr2:=hr1 rfl;subst hr2;have HS1:=qh hS1;have k0:=hS1.cell (v:=.string (txB (d::q))) 0 0 rfl rfl;have k1:=hS1.cell (v:=.bool false) 0 1 rfl rfl;clear hS1);refine bodyPost_ret (v:=.tuple #[.slice none 0 0,.bool false]) (by simp[results,Tryz.results12,go_sem]) rfl ?_;exact .inl ⟨hno.out,rfl,HS1.out.bel⟩
  | nil =>
   have he:=ZdF [];simp only[List.isEmpty_nil] at he;by_cases hq:ZdQ es=s
   ·have hyes:Zch s=some es:=by rw[Hr.out];exact if_pos ⟨rfl,rfl,hq⟩
    have HX:=qh (fun (v:Value) (u:World) (hv:Pairs 0 u v es)=>by have:=Zdf es v u hv;rw[hq] at this;exact this);have Hhyes:=qh hyes;clear hyes;clear hq
    go_enter Tryz.func12, Tryz.ntmps12
    go_wp2_with (first
     | (go_at_call 30;refine(HL.out).mono ?_;rintro e w1 ⟨a1,c1,r1,rfl,hr1,hl1,ht1,hS1⟩;have hr2:=hr1 rfl;subst hr2;have HS1:=qh hS1;have k0:=hS1.cell (v:=.string (txB [])) 0 0 rfl rfl;have k1:=hS1.cell (v:=.bool false) 0 1 rfl rfl;clear hS1)
     | (go_at_call 31;refine(HX.out _ _ (Zad (HS1.out.row 2 rfl))).mono ?_;rintro e w2 ⟨rfl,hb2⟩;have HS2:=qh (HS1.out.call hb2);clear hb2))
    refine bodyPost_ret (v:=.tuple #[.slice a1 es.length c1,.bool true]) (by simp[results,Tryz.results12,go_sem]) rfl ?_;exact .inr ⟨es,a1,c1,Hhyes.out,rfl,HS2.out.pick [2] (by decide)⟩
   have hno:Zch s=none:=by rw[Hr.out];exact if_neg (fun h=>hq h.2.2)
   have hne:=Zl4 (ZiG es) Hht.out hq;have HX:=qh (fun (v:Value) (u:World) (hv:Pairs 0 u v es)=>Zdf es v u hv);replace hno:=qh hno;clear hq
   go_enter Tryz.func12, Tryz.ntmps12
   go_wp2_with (first
    | (go_at_call 30;refine(HL.out).mono ?_;rintro e w1 ⟨a1,c1,r1,rfl,hr1,hl1,ht1,hS1⟩;have hr2:=hr1 rfl;subst hr2;have HS1:=qh hS1;have k0:=hS1.cell (v:=.string (txB [])) 0 0 rfl rfl;have k1:=hS1.cell (v:=.bool false) 0 1 rfl rfl;clear hS1)
    | (go_at_call 31;refine(HX.out _ _ (Zad (HS1.out.row 2 rfl))).mono ?_;rintro e w2 ⟨rfl,hb2⟩;have HS2:=qh (HS1.out.call hb2);clear hb2))
   refine bodyPost_ret (v:=.tuple #[.slice none 0 0,.bool false]) (by simp[results,Tryz.results12,go_sem]) rfl ?_;exact .inl ⟨hno.out,rfl,HS2.out.bel⟩
end Go.Proofs.YtncekbbhgipdlaaGreat
