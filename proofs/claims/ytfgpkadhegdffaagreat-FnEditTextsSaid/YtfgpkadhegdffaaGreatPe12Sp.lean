/-
  The walk over the reference's automaton of sets of states: l9Dfa.
  Conditions: there are m states, at most 40; moves, first and last states lie below; the automaton reads as such.
  The walks over Determinize, of the program and of the reference.
  Conditions: the automaton reads as such.
-/
import Derived.Test.YtfgpkadhegdffaaGreatPe11Do
set_option maxHeartbeats 8000000
set_option maxRecDepth 100000
namespace Go.Proofs.YtfgpkadhegdffaaGreat
open Go.RowKit Go.Maps
def RDetSM (M:Nat) (n:NfaD) (K B:Nat) (e:Ending) (w':World):Prop :=
 if (metSM M n K).length≤K then
  ∃ a1 l1 c1 a2 l2 c2,e = .returned (.tuple #[.agg #[.slice a1 l1 c1,.slice a2 l2 c2],.bool true])∧DfaR B w' (.agg #[.slice a1 l1 c1,.slice a2 l2 c2]) (Zas (nxSM M n) (enS n) (metSM M n K))
 else e = .returned (.tuple #[.agg #[.slice none 0 0,.slice none 0 0],.bool false])
theorem Zg1 (M:Nat) (hM:M≤1000) (m K:Nat) (hK:K=40) (mvs:List (Int × Int × Int)) (fs es:List Int) (v1 v2 v3:Value) (w:World) (hm:m≤M) (hmv:mvIn m mvs) (hml:mvs.length≤1000000) (hf:inN m fs) (hfl:fs.length≤1000000) (h1:Moves 0 w v1 mvs) (h2:Ints 0 w v2 fs) :
  Calls Tryz.prog 163 #[.agg #[.int .i64 (m:Int),v1,v2,v3],.int .i64 40] w fun e w'=>Zq7 M ⟨(m:Int),mvs,fs,es⟩ m K w e w':=by
 have h:=ZhA M hM m K mvs fs es v1 v2 v3 w hm (by omega) (by omega) hmv hml hf hfl h1 h2;have e:((K:Nat):Int)=40:=by omega
 rw[e] at h;exact h
theorem St.rowsform {w0 w:World} {L:List Ent} (h:St w0 w L) (i:Nat) {es e n c:Nat} {a:Option Addr} {vs:List Value} {css:List (List Value)} (hx:L[i]? = some (Ent.rows es e (.slice a n c) vs css)) (hn:0<css.length):∃ g,a=some ⟨g,0,none⟩∧n=css.length:=by obtain⟨g,cap,hv,-,-⟩:=(h.rows i hx).1.form hn;simp only[Value.slice.injEq] at hv;exact⟨g,hv.1,hv.2.1⟩
theorem Zbg {x:Bool}:∀ u∈[Value.bool x],u.oneCell'=true:=by intro u hu;simp only[List.mem_singleton] at hu;subst hu;rfl
theorem ZbA (l:List Bool) (x:Bool):boolCells (l++[x])=boolCells l++[.bool x]:=by simp[boolCells]
theorem Zjf {l:List Int} {p:Int→Bool} {j:Nat} (hj:j<l.length):(l.take (j+1)).any p=((l.take j).any p||p (l.getD j 0)):=by rw[List.take_succ_eq_append_getElem hj,List.any_append];simp[hj]
theorem Zh4 (M:Nat) (hM:M≤1000) (m K:Nat) (hK:K=40) (mvs:List (Int × Int × Int)) (fs es:List Int) (v1 v2 v3:Value) (w:World) (hm:m≤M) (hmv:mvIn m mvs) (hml:mvs.length≤1000000) (hf:inN m fs) (hfl:fs.length≤1000000) (he:inN m es) (hel:es.length≤1000000) (h1:Moves 0 w v1 mvs) (h2:Ints 0 w v2 fs) (h3:Ints 0 w v3 es) :
  Calls Tryz.prog 132 #[.agg #[.int .i64 (m:Int),v1,v2,v3]] w fun e w'=>RDetSM M ⟨(m:Int),mvs,fs,es⟩ K w.heap.size e w'∧Below w.heap.size w w':=by
 obtain⟨a3,c3,rfl,hc3,hm3,hr3⟩:=h3.form;obtain⟨n,hn⟩:∃ n:NfaD,n=⟨(m:Int),mvs,fs,es⟩:=⟨_,rfl⟩;have hne:n.ends=es:=by rw[hn]
 have hS0:=((St.start w).alloc _ rfl #[.int .i64 (m:Int),v1,v2,.slice a3 es.length c3] 90).alloc (w.heap.size+1) (by simp) #[.slice none 0 0,.slice none 0 0] 25;have hsub:=Zg1 M hM m K hK mvs fs es v1 v2 (.slice a3 es.length c3) _ hm hmv hml hf hfl (h1.below hS0.bel) (h2.below hS0.bel);rw[← hn] at hsub;rw[← hn];obtain⟨i0,hi,hz0,hz1,hz2⟩:=info_parts Tryz.infoBool;have hpos:=Zd0 (nx:=nxSM M n) (a:=(((Zoo M n:Nat):Int),0)) K;obtain⟨F,hF⟩:=eI (metSM M n K);have hpos':0<F.length:=by rw[hF];exact hpos
 have hres:∀ B e w',RDetSM M n K B e w'=if F.length≤K then
  ∃ a1 l1 c1 a2 l2 c2,e = .returned (.tuple #[.agg #[.slice a1 l1 c1,.slice a2 l2 c2],.bool true])∧DfaR B w' (.agg #[.slice a1 l1 c1,.slice a2 l2 c2]) (Zas (nxSM M n) (enS n) F)
  else e = .returned (.tuple #[.agg #[.slice none 0 0,.slice none 0 0],.bool false]):=fun B e w'=>by rw[hF];rfl
 have hRS:∀ e w',Zq7 M n m K ((w.alloc (.cells #[.int .i64 (m:Int),v1,v2,.slice a3 es.length c3] 90)).alloc (.cells #[.slice none 0 0,.slice none 0 0] 25)) e w'→∃ a1 c1 a2 c2 l1 l2,e = .returned (.tuple #[.slice a1 l1 c1,.slice a2 l2 c2])∧l1<1000000 ∧
  (if F.length≤K then l1=F.length∧∃ vs1 vs2,St ((w.alloc (.cells #[.int .i64 (m:Int),v1,v2,.slice a3 es.length c3] 90)).alloc (.cells #[.slice none 0 0,.slice none 0 0] 25)) w' [Ent.rows 23 4 (.slice a1 l1 c1) vs1 ((F.map (flc m)).map boolCells),Ent.rows 67 3 (.slice a2 l2 c2) vs2 ((F.map (Zae (nxSM M n) F)).map intCells)]
   else K<l1∧Below ((w.alloc (.cells #[.int .i64 (m:Int),v1,v2,.slice a3 es.length c3] 90)).alloc (.cells #[.slice none 0 0,.slice none 0 0] 25)).heap.size ((w.alloc (.cells #[.int .i64 (m:Int),v1,v2,.slice a3 es.length c3] 90)).alloc (.cells #[.slice none 0 0,.slice none 0 0] 25)) w'):=fun e w' h=>by rw[hF];exact h
 have HRes:=qh hres;have HRS:=qh hRS;have Hsub:=qh hsub;replace hn:=qh hn;have Hhne:=qh hne;clear hne;replace hS0:=qh hS0;have Hhi:=qh hi;clear hi;have Hhz0:=qh hz0;clear hz0;have Hhz1:=qh hz1;clear hz1;have Hhz2:=qh hz2;clear hz2;replace hF:=qh hF;have Hhr3:=qh hr3;clear hr3;have Hhe:=qh he;clear he;have HhK:=qh hK;clear hK;clear h1 h2 h3 hres hRS hsub hpos
 go_enter Tryz.func132, Tryz.ntmps132
 go_wp2_with fail;refine Hsub.out.mono ?_;rintro e w1 hr;obtain⟨a1,c1,a2,c2,l1,l2,rfl,hl1,hr⟩:=HRS.out e w1 hr;by_cases hle:F.length≤K
 ·rw[if_pos hle] at hr;obtain⟨hlF,vs1,vs2,hS'⟩:=hr;have hS1:=hS0.out.cat hS';have hlm1:((F.map (flc m)).map boolCells).length=F.length:=Zcu _ _ _;have hlm2:((F.map (Zae (nxSM M n) F)).map intCells).length=F.length:=Zcu _ _ _;obtain⟨g1,rfl,-⟩:=hS1.rowsform 2 rfl (by rw[hlm1];exact hpos');obtain⟨g2,rfl,hl2⟩:=hS1.rowsform 3 rfl (by rw[hlm2];exact hpos');rw[hlm2] at hl2;have hl40:(l1:Int)≤40:=by have:=HhK.out;omega
  have hS2:=(hS1.alloc _ rfl #[.slice (some ⟨g2,0,none⟩) l2 c2,.slice none 0 0] 25).nilRow 4 1;have HhlF:=qh hlF;clear hlF;have Hhl2:=qh hl2;clear hl2;have Hhlm1:=qh hlm1;clear hlm1;have Hhlm2:=qh hlm2;clear hlm2;have HhS2:=qh hS2;clear hS2;clear hS1 hS';go_wp2
  go_loopw [7] (fun i wr=>∃ (k c:Nat) (a:Option Addr),i = .int .i64 k∧k≤l1∧St w wr [Ent.box w.heap.size #[.int .i64 (m:Int),v1,v2,.slice a3 es.length c3] 90,Ent.box (w.heap.size+1) #[.slice none 0 0,.slice none 0 0] 25,
    Ent.rows 23 4 (.slice (some ⟨g1,0,none⟩) l1 c1) vs1 ((F.map (flc m)).map boolCells),Ent.rows 67 3 (.slice (some ⟨g2,0,none⟩) l2 c2) vs2 ((F.map (Zae (nxSM M n) F)).map intCells),
    Ent.box w1.heap.size #[.slice (some ⟨g2,0,none⟩) l2 c2,.slice a k c] 25,Ent.row 4 1 (.slice a k c) k (boolCells ((F.take k).map (enS n)))])
   (fun i _=>l1-(intOf i).toNat)
  case atStart=>exact⟨0,0,none,rfl,Nat.zero_le _,HhS2.out⟩
  case round =>
   obtain⟨k,c,a,rfl,hk,hS⟩:=hrel;obtain⟨wo,hwo⟩:∃ wo:World,wo=wr:=⟨_,rfl⟩;subst hwo;have HhS:=qh hS;clear hS;by_cases hlt:k<l1
   ·have hkF:k<F.length:=by have:=HhlF.out;omega
    obtain⟨x,hx⟩:=eI (F.getD k ((0,0):Int × Int));have hcs:((F.map (flc m)).map boolCells).getD k []=boolCells (flc m x):=by rw[hx];simp[hkF]
    have hlt2:(k:Int)<l1:=by omega
    have Hhx:=qh hx;clear hx;have Hhcs:=qh hcs;clear hcs;go_wp2
    go_loopw [8,9] (fun ev i wi=>∃ (j:Nat) (b:Bool),i = .int .i64 j∧ev = .bool b∧j≤es.length∧b=(es.take j).any (fun s=>x.1.toNat.testBit s.toNat)∧St w wi [Ent.box w.heap.size #[.int .i64 (m:Int),v1,v2,.slice a3 es.length c3] 90,Ent.box (w.heap.size+1) #[.slice none 0 0,.slice none 0 0] 25,
      Ent.rows 23 4 (.slice (some ⟨g1,0,none⟩) l1 c1) vs1 ((F.map (flc m)).map boolCells),Ent.rows 67 3 (.slice (some ⟨g2,0,none⟩) l2 c2) vs2 ((F.map (Zae (nxSM M n) F)).map intCells),
      Ent.box w1.heap.size #[.slice (some ⟨g2,0,none⟩) l2 c2,.slice a k c] 25,Ent.row 4 1 (.slice a k c) k (boolCells ((F.take k).map (enS n)))])
     (fun _ i _=>es.length-(intOf i).toNat)
    case atStart=>exact⟨0,false,rfl,rfl,Nat.zero_le _,by simp,HhS.out⟩
    case round =>
     obtain⟨j,b,rfl,rfl,hj,hb,hSi⟩:=hrel;have e3:=hSi.cell (v:=.slice a3 es.length c3) 0 3 rfl rfl;by_cases hjl:j<es.length
     ·obtain⟨b3,o3,rfl,-,hbl3,hcs3⟩:=Hhr3.out (by omega);have hce:=(bcell hSi.bel b3 (o3+j) hbl3).trans (hcs3 j hjl);obtain⟨s0,s1⟩:=Hhe.out _ (memD (d:=0) hjl);have hany:=Zjf (p:=fun s=>x.1.toNat.testBit s.toNat) hjl;obtain⟨s,hs⟩:=Int.eq_ofNat_of_zero_le s0;rw[hs] at hce s1 hany;have hsm:s<m:=by omega
      obtain⟨ax,cx,hcell,hxr,hcx1,hcx2,hcp1,hcp2,hb1l⟩:=hSi.rowAt 2 rfl (Hhlm1.out.trans HhlF.out.symm) hlt;rw[Hhcs.out] at hcell hxr hcx1;have hxl:(boolCells (flc m x)).length=m:=by simp[ZiY]
      rw[hxl] at hcell hxr hcx1;obtain⟨gx,cx',hvx,-,-⟩:=hxr.form (by omega);simp only[Value.slice.injEq] at hvx;obtain⟨rfl,-,rfl⟩:=hvx;have hbit:=(hxr.cellAt s (by omega)).trans (ZdS hsm);have hjl2:(j:Int)<es.length:=by omega
      have hsm2:(s:Int)<m:=by omega
      have Hhs:=qh hs;clear hs;have Hhb:=qh hb;clear hb;have Hhany:=qh hany;clear hany;have HhSi:=qh hSi;clear hSi;clear hcs3 hxr hxl s0;cases b
      ·cases ht:x.1.toNat.testBit s
       all_goals
        rw[ht] at hbit;have Hht:=qh ht;clear ht;go_wp2
        go_quiet (fail)
        go_wp2;go_roundw
        case rel =>refine⟨j+1,_,by go_num,rfl,by omega,?_,HhSi.out.drewN _⟩;rw[Hhany.out,← Hhb.out,Int.toNat_natCast,Hht.out];rfl
        case measure=>simp[intOf];omega
      go_wp2
      go_quiet (fail)
      go_wp2;go_roundw
      case rel =>refine⟨j+1,_,by go_num,rfl,by omega,?_,HhSi.out.drewN _⟩;rw[Hhany.out,← Hhb.out];rfl
      case measure=>simp[intOf];omega
     obtain rfl:j=es.length:=by omega
     rw[List.take_length] at hb;have hen:enS n x=b:=by rw[hb,← Hhne.out];rfl
     have d1:=hSi.cell (v:=.slice a k c) 4 1 rfl rfl;have hSa:=hSi.alloc_ (.cells #[.bool b] 4);have hR:=hSa.row 5 rfl;have htk:(F.take (k+1)).map (enS n)=(F.take k).map (enS n)++[b]:=by rw[List.take_succ_eq_append_getElem hkF,List.map_append,← hen,Hhx.out];simp[hkF]
     have Hhen:=qh hen;clear hen;have Hhb:=qh hb;clear hb;have Hhtk:=qh htk;clear htk;have HhSi:=qh hSi;clear hSi;have HhSa:=qh hSa;clear hSa;have HhR:=qh hR;clear hR;go_wp2_with (at_builtin;refine wpList_append_lies _ rfl _ _ _ rfl _ 4 i0 (.bool false) 1 1 Tryz.underlying23 Hhi.out Hhz0.out Hhz1.out Hhz2.out rfl (by omega) _ k _ rfl HhR.out ⟨wr.heap.size,0,none⟩ 1 1 [.bool b] rfl rfl (World.news_of_block (heap_alloc_new wr _)) Zbg (by omega) (by unfold maxLen;omega) (by omega) HhSa.out.size _ rfl ?_;intro g6 c6 w6 hown6 hgrow6 hat6 hlt6;have HS6:=qh (HhSa.out.app 5 rfl hown6 hgrow6 hat6);have y1:=HS6.out.cell (v:=.slice a k c) 4 1 rfl rfl;have y2:=HS6.out.fr 4 1 rfl;clear hown6 hgrow6 hat6 hlt6);go_roundw
     case rel =>refine⟨k+1,c6,some ⟨g6,0,none⟩,by go_num,by omega,?_⟩;rw[Hhtk.out,ZbA];exact HS6.out.set 4 rfl 1 (.slice (some ⟨g6,0,none⟩) (k+1) c6)
     case measure=>simp[intOf];omega
   obtain rfl:k=l1:=by omega
   have d0:=HhS.out.cell (v:=.slice (some ⟨g2,0,none⟩) l2 c2) 4 0 rfl rfl;have d1:=HhS.out.cell (v:=.slice a k c) 4 1 rfl rfl;have f0:=HhS.out.fr 1 0 rfl;have f1:=HhS.out.fr 1 1 rfl;have k0:=HhS.out.cell (v:=.slice none 0 0) 1 0 rfl rfl;have k1:=HhS.out.cell (v:=.slice none 0 0) 1 1 rfl rfl;go_wp2;have hq:=(HhS.out.set 1 rfl 0 (.slice (some ⟨g2,0,none⟩) l2 c2)).set 1 rfl 1 (.slice a k c);have q0:=hq.cell (v:=.slice (some ⟨g2,0,none⟩) l2 c2) 1 0 rfl rfl;have q1:=hq.cell (v:=.slice a k c) 1 1 rfl rfl;refine bodyPost_ret (v:=.tuple #[.agg #[.slice (some ⟨g2,0,none⟩) l2 c2,.slice a k c],.bool true]) (by simp[results,Tryz.results132,go_sem,q0,q1]) rfl ⟨?_,hq.bel⟩;rw[HRes.out,if_pos hle];refine⟨_,_,_,_,_,_,rfl,_,_,rfl,(hq.intSS 3 rfl).intSS,?_⟩;have hb:=Za0 (hq.row 5 rfl);rw[List.take_of_length_le (by have:=HhlF.out;omega)] at hb;exact hb
 rw[if_neg hle] at hr;have hl40:(l1:Int)>40:=by have:=HhK.out;omega
 have hS1:=hS0.out.call hr.2;have f0:=hS1.fr 1 0 rfl;have f1:=hS1.fr 1 1 rfl;have k0:=hS1.cell (v:=.slice none 0 0) 1 0 rfl rfl;have k1:=hS1.cell (v:=.slice none 0 0) 1 1 rfl rfl;have HhS1:=qh hS1;clear hS1;go_wp2;have hq:=(HhS1.out.set 1 rfl 0 (.slice none 0 0)).set 1 rfl 1 (.slice none 0 0);have q0:=hq.cell (v:=.slice none 0 0) 1 0 rfl rfl;have q1:=hq.cell (v:=.slice none 0 0) 1 1 rfl rfl;refine bodyPost_ret (v:=.tuple #[.agg #[.slice none 0 0,.slice none 0 0],.bool false]) (by simp[results,Tryz.results132,go_sem,q0,q1]) rfl ⟨?_,hq.bel⟩;rw[HRes.out,if_neg hle]
end Go.Proofs.YtfgpkadhegdffaaGreat
namespace Go.Proofs.YtfgpkadhegdffaaGreat
open Go.RowKit Go.Maps
def detK (K:Nat) (n:NfaD):Option DfaD:=if ZiK n=true∧(metS n K).length≤K then some (Zas (nxS n) (enS n) (metS n K)) else none
def Zbj:DfaD:=⟨[],[]⟩
theorem ZgN (w:World) (B e size:Nat):w.ownsRow B e size (.slice none 0 0) 0 []:=⟨by simp,Or.inl ⟨rfl,rfl⟩⟩
theorem Zjh (w:World) (B tS tI tB:Nat):DfaO tS tI tB B w.heap.size w (.agg #[.slice none 0 0,.slice none 0 0]) Zbj :=
 ⟨_,_,rfl,⟨[],Zab (ZgN w B tS 1),fun i hi=>absurd hi (by simp[Zbj]),fun i j k _ hj=>absurd hj (by simp[Zbj])⟩,Zab (ZgN w B tB 1)⟩
end Go.Proofs.YtfgpkadhegdffaaGreat
namespace Go.Proofs.YtfgpkadhegdffaaGreat
open Go.RowKit
theorem ZdM {α β:Type} {f:α→β}:∀ {l:List α},(l.map f).Nodup→l.Nodup
 | [],_=>List.nodup_nil
 | x::l,h=>by rw[List.map_cons,List.nodup_cons] at h;exact List.nodup_cons.2 ⟨fun hx=>h.1 (List.mem_map.2 ⟨x,hx,rfl⟩),ZdM h.2⟩
theorem ZfM {α β:Type} {f:α→β}:∀ {l:List α},(l.map f).Nodup→∀ {x y:α},x∈l→y∈l→f x=f y→x=y
 | [],_,x,_,hx,_,_=>by simp at hx
 | z::l,h,x,y,hx,hy,e=>by
  rw[List.map_cons,List.nodup_cons] at h;rcases List.mem_cons.1 hx with hx1|hx1
  ·rcases List.mem_cons.1 hy with hy1|hy1
   ·rw[hx1,hy1]
   exact absurd (List.mem_map.2 ⟨y,hy1,by rw[← e,hx1]⟩) h.1
  rcases List.mem_cons.1 hy with hy1|hy1
  ·exact absurd (List.mem_map.2 ⟨x,hx1,by rw[e,hy1]⟩) h.1
  exact ZfM h.2 hx1 hy1 e
/-! Closing a list of words: a word becomes a start if no start has its key. -/
section
variable {β:Type} [DecidableEq β] (key:List Nat→β)
def kvisit (s:List (List Nat)) (w:List Nat):List (List Nat):=if key w∈s.map key then s else s++[w]
def krow (s:List (List Nat)) (w:List Nat):Nat→List (List Nat)
 | 0=>s
 | n+1=>kvisit key (krow s w n) (w++[n])
def kat (s0:List (List Nat)):Nat→List (List Nat)
 | 0=>s0
 | k+1=>if k<(kat s0 k).length then krow key (kat s0 k) ((kat s0 k).getD k []) 3 else kat s0 k
def kpart (s0:List (List Nat)) (k n:Nat):List (List Nat):=krow key (kat key s0 k) ((kat key s0 k).getD k []) n
variable {key} {s0:List (List Nat)}
theorem ZeP {k:Nat} (h:k<(kat key s0 k).length):kat key s0 (k+1)=kpart key s0 k 3:=by simp only[kat,if_pos h];rfl
theorem ZeQ {k:Nat} (h:(kat key s0 k).length≤k):kat key s0 (k+1)=kat key s0 k:=by simp only[kat,if_neg (show ¬ k<(kat key s0 k).length by omega)]
theorem Zh8 (k n:Nat):kpart key s0 k (n+1)=kvisit key (kpart key s0 k n) ((kat key s0 k).getD k []++[n]):=rfl
theorem Zh6 (s:List (List Nat)) (w:List Nat):s <+: kvisit key s w:=by
 unfold kvisit
 split
 ·exact List.prefix_rfl
 exact List.prefix_append _ _
theorem ZpU (s:List (List Nat)) (w:List Nat) {n m:Nat} (h:n≤m):krow key s w n <+: krow key s w m:=by
 induction m with
 | zero =>
  obtain rfl:n=0:=by omega
  exact List.prefix_rfl
 | succ m ih =>
  by_cases hn:n=m+1
  ·subst hn;exact List.prefix_rfl
  exact(ih (by omega)).trans (Zh6 _ _)
theorem ZjP {k n m:Nat} (h:n≤m):kpart key s0 k n <+: kpart key s0 k m:=ZpU _ _ h
theorem ZiO {k m:Nat} (h:k≤m):kat key s0 k <+: kat key s0 m:=by
 induction m with
 | zero =>
  obtain rfl:k=0:=by omega
  exact List.prefix_rfl
 | succ m ih =>
  by_cases hn:k=m+1
  ·subst hn;exact List.prefix_rfl
  refine(ih (by omega)).trans ?_;by_cases hl:m<(kat key s0 m).length
  ·rw[ZeP hl];exact ZjP (Nat.zero_le 3)
  rw[ZeQ (by omega)];exact List.prefix_rfl
theorem ZpV {k m:Nat} (h:(kat key s0 k).length≤k) (hm:k≤m):kat key s0 m=kat key s0 k:=by
 induction m with
 | zero =>
  obtain rfl:k=0:=by omega
  rfl
 | succ m ih =>
  by_cases hn:k=m+1
  ·subst hn;rfl
  have e:=ih (by omega);rw[ZeQ (by rw[e];omega),e]
theorem Zh7 (Q:List (List Nat)→Prop) (hv:∀ s w,Q s→Q (kvisit key s w)) {s:List (List Nat)} (hs:Q s) (w:List Nat):∀ n,Q (krow key s w n)
 | 0=>hs
 | n+1=>hv _ _ (Zh7 Q hv hs w n)
theorem Zn9 (Q:List (List Nat)→Prop) (h0:Q s0) (hv:∀ s w,Q s→Q (kvisit key s w)):∀ k,Q (kat key s0 k)
 | 0=>h0
 | k+1=>by
  have ih:=Zn9 Q h0 hv k;by_cases h:k<(kat key s0 k).length
  ·rw[ZeP h];exact Zh7 Q hv ih _ 3
  rw[ZeQ (by omega)];exact ih
theorem ZjO {s:List (List Nat)} (w:List Nat) (h:(s.map key).Nodup):((kvisit key s w).map key).Nodup:=by
 unfold kvisit
 split
 ·exact h
 rename_i hn;rw[List.map_append];exact Zc8 h hn
theorem Zn8 (h:(s0.map key).Nodup) (k:Nat):((kat key s0 k).map key).Nodup:=Zn9 (fun s=>(s.map key).Nodup) h (fun _ w hs=>ZjO w hs) k
theorem Zmw (s:List (List Nat)) (w:List Nat):key w∈(kvisit key s w).map key:=by
 unfold kvisit
 split
 ·assumption
 simp
theorem Zn7 {k n c:Nat} (hc:c<n):key ((kat key s0 k).getD k []++[c])∈(kpart key s0 k n).map key:=by
 have h1:key ((kat key s0 k).getD k []++[c])∈(kpart key s0 k (c+1)).map key:=by rw[Zh8];exact Zmw _ _
 obtain⟨t,ht⟩:=ZjP (key:=key) (s0:=s0) (k:=k) (show c+1≤n by omega);rw[← ht,List.map_append,List.mem_append];exact Or.inl h1
theorem Zmx {K:Nat} (hK:(kat key s0 K).length≤K) {i c:Nat} (hi:i<(kat key s0 K).length) (hc:c<3):key ((kat key s0 K).getD i []++[c])∈(kat key s0 K).map key:=by
 have hp:=ZiO (key:=key) (s0:=s0) (show i≤K by omega);by_cases h:i<(kat key s0 i).length
 ·rw[ZaD hp h];have h1:=Zn7 (key:=key) (s0:=s0) (k:=i) hc;rw[← ZeP h] at h1;obtain⟨t,ht⟩:=ZiO (key:=key) (s0:=s0) (show i+1≤K by omega);rw[← ht,List.map_append,List.mem_append];exact Or.inl h1
 have:=ZpV (key:=key) (s0:=s0) (m:=K) (show(kat key s0 i).length≤i by omega) (by omega);rw[this] at hi;omega
end
/-! The table. -/
def runD (d:DfaD) (s:Int) (w:List Nat):Int:=w.foldl (dnx d) s
def accD (d:DfaD) (w:List Nat):Bool:=den d (runD d 0 w)
def rowW (d:DfaD) (rests:List (List Nat)) (w:List Nat):List Bool:=rests.map fun r=>accD d (w++r)
theorem Zel (d:DfaD) (s:Int) (u v:List Nat):runD d s (u++v)=runD d (runD d s u) v:=by simp[runD]
theorem Zk9 (d:DfaD) (u v:List Nat):accD d (u++v)=den d (runD d (runD d 0 u) v):=by rw[accD,Zel]
theorem ZiD (d:DfaD) (rests:List (List Nat)) (w:List Nat):(rowW d rests w).length=rests.length:=by simp[rowW]
def isW (w:List Nat):Prop:=∀ c∈w,c<3
theorem Zfs {u v:List Nat} (hu:isW u) (hv:isW v):isW (u++v):=fun c hc=>by
 rcases List.mem_append.1 hc with h|h
 ·exact hu c h
 exact hv c h
theorem ZkU {c:Nat} (h:c<3):isW [c]:=fun x hx=>by simp at hx;omega
theorem ZpY {w:List Nat} (h:isW w) (k:Nat):isW (w.take k):=fun c hc=>h c (List.mem_of_mem_take hc)
theorem ZlE {w:List Nat} (h:isW w) (k:Nat):isW (w.drop k):=fun c hc=>h c (List.mem_of_mem_drop hc)
theorem ZiC {d:DfaD} (hd:Zag d.next d.ends=true):∀ {w:List Nat},isW w→∀ {s:Int},0≤s→s<d.next.length→0≤runD d s w∧runD d s w<d.next.length
 | [],_,s,h0,h1=>⟨h0,h1⟩
 | c::w,hw,s,h0,h1=>by have hc:c<3:=hw c (by simp);have hr:=(ZaM hd (i:=s.toNat) (by omega)).2 c hc;exact ZiC hd (w:=w) (fun x hx=>hw x (by simp[hx])) (s:=dnx d s c) hr.1 hr.2
theorem Znk {d:DfaD} (hd:Zag d.next d.ends=true) {rests l:List (List Nat)} (hl:∀ w∈l,isW w) (hn:(l.map (rowW d rests)).Nodup):l.length≤d.next.length:=by
 have h0:=(Zaf hd).1
 have hm:(l.map (runD d 0)).Nodup:=by
  have e:l.map (rowW d rests)=(l.map (runD d 0)).map fun s=>rests.map fun r=>den d (runD d s r):=by rw[List.map_map];apply List.map_congr_left;intro w _;simp[rowW,Zk9]
  rw[e] at hn;exact ZdM hn
 have h1:=ZeK (m:=Za5 d.next.length) hm fun x hx=>by obtain⟨w,hw,rfl⟩:=List.mem_map.1 hx;obtain⟨a,b⟩:=ZiC hd (hl w hw) (s:=0) (by omega) (by omega);obtain⟨n,hn⟩:=Int.eq_ofNat_of_zero_le a;rw[hn] at b ⊢;exact ZcC.2 (by omega)
 simpa [Zcz] using h1
def ZdU (d:DfaD) (starts rests:List (List Nat)):List (List Nat):=kat (rowW d rests) starts (d.next.length+1)
def ZaB (d:DfaD) (starts rests:List (List Nat)):DfaD:=⟨starts.map fun w=>(List.range 3).map fun c=>Zi0 (starts.map (rowW d rests)) (rowW d rests (w++[c])),starts.map (accD d)⟩
def mixW (starts:List (List Nat)) (g:DfaD) (s:List Nat) (k:Nat):List Nat:=starts.getD (runD g 0 (s.take k)).toNat []++s.drop k
def cutW (d:DfaD) (starts:List (List Nat)) (g:DfaD) (s:List Nat):Nat:=((List.range s.length).find? fun k=>accD d (mixW starts g s k) != accD d (mixW starts g s (k+1))).getD 0
def tabW (d:DfaD) (hit:DfaD→Option (List Nat)):Nat→List (List Nat) × List (List Nat)
 | 0=>(ZdU d [[]] [[]],[[]])
 | j+1 =>
  let s:=(tabW d hit j).1
  let r:=(tabW d hit j).2
  let g:=ZaB d s r
  let w:=(hit g).getD []
  let r':=r++[w.drop (cutW d s g w+1)]
  (ZdU d s r',r')
def gssW (d:DfaD) (hit:DfaD→Option (List Nat)) (j:Nat):DfaD:=ZaB d (tabW d hit j).1 (tabW d hit j).2
structure LInv (d:DfaD) (s r:List (List Nat)):Prop where
 sw:∀ x∈s,isW x
 rw:∀ x∈r,isW x
 s0:s.head? = some []
 r0:r.head? = some []
 nd:(s.map (rowW d r)).Nodup
 cl:∀ i c,i<s.length→c<3→rowW d r (s.getD i []++[c])∈s.map (rowW d r)
theorem LInv.pos {d:DfaD} {s r:List (List Nat)} (h:LInv d s r):0<s.length:=by
 have:=h.s0;cases s with
 | nil=>simp at this
 | cons=>simp
theorem LInv.first {d:DfaD} {s r:List (List Nat)} (h:LInv d s r):s.getD 0 []=[]:=by
 have:=h.s0;cases s with
 | nil=>rfl
 | cons x l=>simpa using this
theorem LInv.le {d:DfaD} (hd:Zag d.next d.ends=true) {s r:List (List Nat)} (h:LInv d s r):s.length≤d.next.length:=Znk hd h.sw h.nd
theorem Zic {d:DfaD} (hd:Zag d.next d.ends=true) {s r:List (List Nat)} (hs:∀ x∈s,isW x) (hr:∀ x∈r,isW x) (h0:s.head? = some []) (hr0:r.head? = some []) (hn:(s.map (rowW d r)).Nodup):LInv d (ZdU d s r) r∧s <+: ZdU d s r:=by
 have hpre:s <+: ZdU d s r:=ZiO (key:=rowW d r) (s0:=s) (Nat.zero_le (d.next.length+1))
 have hw:∀ K,∀ x∈kat (rowW d r) s K,isW x:=fun K=>by
  induction K with
  | zero=>exact hs
  | succ K ih =>
   by_cases h:K<(kat (rowW d r) s K).length
   ·rw[ZeP h]
    have key:∀ n,n≤3→∀ x∈kpart (rowW d r) s K n,isW x:=by
     intro n
     induction n with
     | zero=>intro _;exact ih
     | succ n ihn =>
      intro hn3 x hx;rw[Zh8] at hx;unfold kvisit at hx
      split at hx
      ·exact ihn (by omega) x hx
      rcases List.mem_append.1 hx with hx|hx
      ·exact ihn (by omega) x hx
      simp only[List.mem_singleton] at hx;subst hx;exact Zfs (ih _ (memD h)) (ZkU (by omega))
    exact key 3 (by omega)
   rw[ZeQ (by omega)];exact ih
 have hnd:=Zn8 (key:=rowW d r) (s0:=s) hn (d.next.length+1);have hle:=Znk hd (hw (d.next.length+1)) hnd;refine⟨⟨hw _,hr,?_,hr0,hnd,fun i c hi hc=>Zmx (by omega) hi hc⟩,hpre⟩;obtain⟨t,ht⟩:=hpre;rw[← ht];cases s with
 | nil=>simp at h0
 | cons x l=>simpa using h0
theorem ZiV {d:DfaD} {s r:List (List Nat)} (h:LInv d s r) {i c:Nat} (hi:i<s.length) (hc:c<3) :
  ∃ q:Nat,q<s.length∧((ZaB d s r).next.getD i []).getD c 0=(q:Int)∧rowW d r (s.getD q [])=rowW d r (s.getD i []++[c]):=by
 have hm:=h.cl i c hi hc;have hl:=ZaV hm;rw[List.length_map] at hl;refine⟨Zaj (s.map (rowW d r)) (rowW d r (s.getD i []++[c])),hl,?_,?_⟩
 ·have e1:(ZaB d s r).next.getD i []=(List.range 3).map fun c=>Zi0 (s.map (rowW d r)) (rowW d r (s.getD i []++[c])):=by simp[ZaB,hi]
  rw[e1];simp only[List.getD_eq_getElem?_getD,List.getElem?_map,List.getElem?_range hc,Option.map_some,Option.getD_some];unfold Zi0;rw[← List.getD_eq_getElem?_getD,if_pos hm]
 have:=ZiW hm (rowW d r []);simpa [hl] using this
theorem Zoj (d:DfaD) (s r:List (List Nat)):(ZaB d s r).next.length=s.length∧(ZaB d s r).ends.length=s.length:=by simp[ZaB]
theorem Zhd {d:DfaD} {s r:List (List Nat)} (h:LInv d s r):∀ {w:List Nat},isW w→∀ {i:Nat},i<s.length→∃ q:Nat,q<s.length∧runD (ZaB d s r) i w=(q:Int)
 | [],_,i,hi=>⟨i,hi,rfl⟩
 | c::w,hw,i,hi=>by obtain⟨q,hq,e,-⟩:=ZiV h hi (hw c (by simp));obtain⟨p,hp,e2⟩:=Zhd h (w:=w) (fun x hx=>hw x (by simp[hx])) hq;refine⟨p,hp,?_⟩;show runD (ZaB d s r) (dnx (ZaB d s r) i c) w=_;unfold dnx;rw[Int.toNat_natCast,e];exact e2
theorem Zok {d:DfaD} {s r:List (List Nat)} {q:Nat} (hq:q<s.length):den (ZaB d s r) (q:Int)=accD d (s.getD q []):=by unfold den;simp[ZaB,hq]
theorem Zm4 {f:Nat→Bool}:∀ {n:Nat},f 0≠f n→∃ k,k<n∧f k≠f (k+1)
 | 0,h=>absurd rfl h
 | n+1,h=>by
  by_cases e:f n=f (n+1)
  ·rw[← e] at h;obtain⟨k,hk,hh⟩:=Zm4 h;exact⟨k,by omega,hh⟩
  exact⟨n,by omega,e⟩
theorem Zrs {d:DfaD} {s r:List (List Nat)} (h:LInv d s r) {w:List Nat} (hw:isW w) (hne:accD d w≠accD (ZaB d s r) w) :
  cutW d s (ZaB d s r) w<w.length∧(accD d (mixW s (ZaB d s r) w (cutW d s (ZaB d s r) w)) != accD d (mixW s (ZaB d s r) w (cutW d s (ZaB d s r) w+1)))=true ∧
   ∀ k,k<cutW d s (ZaB d s r) w→(accD d (mixW s (ZaB d s r) w k) != accD d (mixW s (ZaB d s r) w (k+1)))=false:=by
 have f0:accD d (mixW s (ZaB d s r) w 0)=accD d w:=by unfold mixW;rw[List.take_zero,List.drop_zero];show accD d (s.getD 0 []++w)=_;rw[h.first,List.nil_append]
 have fn:accD d (mixW s (ZaB d s r) w w.length)=accD (ZaB d s r) w:=by obtain⟨q,hq,e⟩:=Zhd h hw h.pos;unfold mixW;rw[List.take_length,List.drop_length,List.append_nil];unfold accD at *;have e':runD (ZaB d s r) 0 w=(q:Int):=e;rw[e',Int.toNat_natCast,Zok hq];rfl
 obtain⟨k,hk,hkne⟩:=Zm4 (f:=fun k=>accD d (mixW s (ZaB d s r) w k)) (n:=w.length) (by rw[f0,fn];exact hne);unfold cutW;cases hf:(List.range w.length).find? fun k=>accD d (mixW s (ZaB d s r) w k) != accD d (mixW s (ZaB d s r) w (k+1)) with
 | none =>have:=List.find?_eq_none.1 hf k (List.mem_range.2 hk);simp only[bne_iff_ne,ne_eq,Decidable.not_not] at this;exact absurd this hkne
 | some c =>obtain⟨h1,n,hn,hc,h2⟩:=List.find?_eq_some_iff_getElem.1 hf;simp only[List.getElem_range,List.length_range] at hn hc h2;subst hc;simp only[Option.getD_some];refine⟨hn,h1,fun k hk => ?_⟩;have:=h2 k hk;simpa using this
theorem ZkG {d:DfaD} (hd:Zag d.next d.ends=true) {s r:List (List Nat)} (h:LInv d s r) {w:List Nat} (hw:isW w) (hne:accD d w≠accD (ZaB d s r) w) {r':List (List Nat)} (hr':r'=r++[w.drop (cutW d s (ZaB d s r) w+1)]) :
  LInv d (ZdU d s r') r'∧s <+: ZdU d s r'∧s.length<(ZdU d s r').length:=by
 obtain⟨hk,hcut,-⟩:=Zrs h hw hne;obtain⟨k,hkk⟩:=eI (cutW d s (ZaB d s r) w);rw[← hkk] at hk hcut hr'
 have hrw:∀ x∈r',isW x:=fun x hx=>by
  rw[hr'] at hx;rcases List.mem_append.1 hx with hx|hx
  ·exact h.rw x hx
  simp only[List.mem_singleton] at hx;subst hx;exact ZlE hw _
 have hrow:∀ u,rowW d r' u=rowW d r u++[accD d (u++w.drop (k+1))]:=fun u=>by rw[hr'];simp[rowW]
 have hr0:r'.head? = some []:=by
  rw[hr'];have:=h.r0;cases hr:r with
  | nil=>rw[hr] at this;simp at this
  | cons x l=>rw[hr] at this;simpa using this
 have hnd:(s.map (rowW d r')).Nodup:=by
  have e:s.map (rowW d r)=(s.map (rowW d r')).map (List.take r.length):=by rw[List.map_map];apply List.map_congr_left;intro u _;simp only[Function.comp_apply];rw[hrow,List.take_left' (ZiD _ _ _)]
  have:=h.nd;rw[e] at this;exact ZdM this
 obtain⟨hI,hp⟩:=Zic hd h.sw hrw h.s0 hr0 hnd;refine⟨hI,hp,?_⟩;obtain⟨q,hq,e⟩:=Zhd h (ZpY hw k) h.pos;have hc:w.getD k 0<3:=hw _ (memD hk);obtain⟨q',hq',e2,e3⟩:=ZiV h hq hc;have e:runD (ZaB d s r) 0 (w.take k)=(q:Int):=e;have htk:w.take (k+1)=w.take k++[w.getD k 0]:=by rw[List.take_succ_eq_append_getElem hk];simp[hk]
 have hdk:w.drop k=w.getD k 0::w.drop (k+1):=by rw[List.drop_eq_getElem_cons hk];simp[hk]
 have e':runD (ZaB d s r) 0 (w.take (k+1))=(q':Int):=by rw[htk,Zel,e];show dnx (ZaB d s r) (q:Int) (w.getD k 0)=_;unfold dnx;rw[Int.toNat_natCast,e2]
 have m1:mixW s (ZaB d s r) w k=(s.getD q []++[w.getD k 0])++w.drop (k+1):=by unfold mixW;rw[e,Int.toNat_natCast,hdk];simp
 have m2:mixW s (ZaB d s r) w (k+1)=s.getD q' []++w.drop (k+1):=by unfold mixW;rw[e',Int.toNat_natCast]
 rw[m1,m2] at hcut
 have hnot:rowW d r' (s.getD q []++[w.getD k 0]) ∉ s.map (rowW d r'):=by
  intro hm;obtain⟨u,hu,eu⟩:=List.mem_map.1 hm;rw[hrow,hrow] at eu;obtain⟨h1,h2⟩:=List.append_inj eu (by rw[ZiD,ZiD]);have hq1:s.getD q' []∈s:=memD hq';have:u=s.getD q' []:=by exact ZfM h.nd hu hq1 (by rw[h1,e3])
  rw[this] at h2;simp only[List.cons.injEq,and_true] at h2;rw[h2] at hcut;simp at hcut
 rcases Nat.lt_or_ge s.length (ZdU d s r').length with h1|h1
 ·exact h1
 exfalso;have heq:ZdU d s r'=s:=by obtain⟨t,ht⟩:=hp;have:t=[]:=List.eq_nil_of_length_eq_zero (by have:=congrArg List.length ht;simp at this;omega);rw[← ht,this,List.append_nil]
 have hcl:=hI.cl q (w.getD k 0) (by rw[heq];exact hq) hc;rw[heq] at hcl;exact hnot hcl
theorem Zi5 {next:List (List Int)} {ends:List Bool} (h1:1≤next.length) (h2:next.length≤40) (h3:ends.length=next.length) (hr:∀ i,i<next.length→(next.getD i []).length=3∧∀ c,c<3→0≤(next.getD i []).getD c 0∧(next.getD i []).getD c 0<next.length):Zag next ends=true:=by
 simp only[Zag,Bool.and_eq_true,List.all_eq_true,decide_eq_true_eq];refine⟨⟨fun x hx => ?_,?_⟩,h3⟩
 ·obtain⟨i,hi,e⟩:=List.getElem_of_mem hx;obtain⟨a,b⟩:=hr i hi;rw[Zbm hi,e] at a b;simp only[ZdB,Bool.and_eq_true,decide_eq_true_eq,List.all_eq_true];refine⟨a,fun y hy => ?_⟩;obtain⟨c,hc,e2⟩:=List.getElem_of_mem hy;have:=b c (by omega);rw[Zbm hc,e2] at this;simp[inB];omega
 simp[inB];omega
theorem Zp4 {d:DfaD} (hd:Zag d.next d.ends=true) {s r:List (List Nat)} (h:LInv d s r):Zag (ZaB d s r).next (ZaB d s r).ends=true:=by
 have h1:=h.pos;have h2:=h.le hd;have h3:=Zaf hd;obtain⟨l1,l2⟩:=Zoj d s r;refine Zi5 (by omega) (by omega) (by omega) fun i hi => ?_
 rw[l1] at hi;refine⟨by simp[ZaB,hi],fun c hc => ?_⟩;obtain⟨q,hq,e,-⟩:=ZiV h hi hc;rw[e,l1];omega
def Zrq (d:DfaD) (hit:DfaD→Option (List Nat)):Prop:=∀ g,Zag g.next g.ends=true→∀ w,hit g=some w→isW w∧accD d w≠accD g w
theorem Zkm {d:DfaD} (hd:Zag d.next d.ends=true) {hit:DfaD→Option (List Nat)} (hh:Zrq d hit):∀ j,(∀ i,i<j→(hit (gssW d hit i)).isSome=true)→LInv d (tabW d hit j).1 (tabW d hit j).2∧j+1≤(tabW d hit j).1.length
 | 0,_=>by have h:=(Zic hd (s:=[[]]) (r:=[[]]) (fun x hx=>by simp at hx;subst hx;intro c hc;simp at hc) (fun x hx=>by simp at hx;subst hx;intro c hc;simp at hc) rfl rfl (by simp)).1;exact⟨h,h.pos⟩
 | j+1,hy=>by
  obtain⟨h,hl⟩:=Zkm hd hh j fun i hi=>hy i (by omega)
  have h1:=hy j (by omega);obtain⟨w,hw⟩:=Option.isSome_iff_exists.1 h1;obtain⟨hw1,hw2⟩:=hh _ (Zp4 hd h) w hw;have hm:=ZkG hd h hw1 hw2 (r':=(tabW d hit (j+1)).2) (by show(tabW d hit j).2++_=_;simp only[show hit (ZaB d (tabW d hit j).1 (tabW d hit j).2)=some w from hw,Option.getD_some]);exact⟨hm.1,by have:=hm.2.2;show _≤(ZdU d (tabW d hit j).1 (tabW d hit (j+1)).2).length;omega⟩
def rowM (d:DfaD) (s:Nat):List (Int × Int × Int):=(List.range 3).map fun (c:Nat)=>((s:Int),(c:Int),(d.next.getD s []).getD c 0)
def mvs (d:DfaD):Nat→List (Int × Int × Int)
 | 0=>[]
 | s+1=>mvs d s++rowM d s
def ZaE (d:DfaD):NfaD:=⟨d.next.length,mvs d d.next.length,[0],eds d d.next.length⟩
theorem Zgc (d:DfaD) (s:Nat):(rowM d s).length=3:=by simp[rowM]
theorem Zjw (d:DfaD) (s:Nat) {c:Nat} (hc:c<3):(rowM d s).take (c+1)=(rowM d s).take c++[((s:Int),(c:Int),(d.next.getD s []).getD c 0)]:=by rw[List.take_succ_eq_append_getElem (by rw[Zgc];exact hc)];simp[rowM]
theorem Zco (d:DfaD):∀ s,(mvs d s).length=3*s
 | 0=>rfl
 | s+1=>by show(mvs d s++rowM d s).length=_;rw[List.length_append,Zco d s,Zgc];omega
theorem ZfQ (d:DfaD):∀ s,∀ x∈eds d s,0≤x∧x<(s:Int)
 | 0,x,hx=>by simp[eds] at hx
 | s+1,x,hx=>by
  have ih:=ZfQ d s;unfold eds at hx
  split at hx
  ·rcases List.mem_append.1 hx with hx|hx
   ·have:=ih x hx;omega
   simp only[List.mem_singleton] at hx;omega
  have:=ih x hx;omega
theorem ZfJ {d:DfaD} (hd:Zag d.next d.ends=true):∀ s,s≤d.next.length→mvIn d.next.length (mvs d s)
 | 0,_,x,hx=>by simp[mvs] at hx
 | s+1,hs,x,hx=>by
  have hx:x∈mvs d s++rowM d s:=hx;rcases List.mem_append.1 hx with hx|hx
  ·exact ZfJ hd s (by omega) x hx
  obtain⟨c,hc,rfl⟩:=List.mem_map.1 hx;have:=(ZaM hd (show s<d.next.length by omega)).2 c (List.mem_range.1 hc);simp only;omega
end Go.Proofs.YtfgpkadhegdffaaGreat
namespace Go.Proofs.YtfgpkadhegdffaaGreat
open Go.RowKit
theorem Zer (d:DfaD) (v:Value) (w:World) (hd:Zag d.next d.ends=true) (h:DfaR 0 w v d) :
  Calls Tryz.prog 79 #[v] w fun e w'=>RNfaS (ZaE d) w e w':=by
 obtain⟨v1,v2,rfl,q1,q2⟩:=h;obtain⟨L,hL⟩:=eI (d.next.length);obtain⟨hl1,hl2,hl3⟩:=Zaf hd;have hrow:=fun (i:Nat) (hi:i<d.next.length)=>(ZaM hd hi)
 obtain⟨av,cv,rfl,hc1,hc2,hr1⟩:=q1.formI;obtain⟨b1,o1,rfl,-,hb1,hcs1⟩:=hr1 (by omega);obtain⟨a2,c2,rfl,hc3,hc4,hr2⟩:=q2.form;obtain⟨b2,o2,rfl,-,hb2,hcs2⟩:=hr2 (by omega);rw[hl3] at hcs2 hc3;rw[← hL] at hl1 hl2 hl3 hrow hc1 hcs1 hcs2 hc3;rw[hl3,← hL];obtain⟨i0,hi,hz0,hz1,hz2⟩:=info_parts Tryz.infoMv;obtain⟨j0,hj,hy0,hy1,hy2⟩:=info_parts Tryz.infoInt;have hS0:=(((St.start w).alloc _ rfl #[.slice (some ⟨b1,o1,none⟩) L cv,.slice (some ⟨b2,o2,none⟩) L c2] 25).alloc (w.heap.size+1) (by simp) #[.int .i64 0,.slice none 0 0,.slice none 0 0,.slice none 0 0] 90).alloc (w.heap.size+1+1) (by simp) #[.int .i64 0] 3;have hS1:=(hS0.boxrow 2 1 1 [.int .i64 0] rfl rfl (by unfold maxLen;omega)).alloc (w.heap.size+1+1+1) (by simp) #[.int .i64 L,.slice none 0 0,.slice (some ⟨w.heap.size+1+1,0,none⟩) 1 1,.slice none 0 0] 90;have hS2:=(hS1.nilRow 135 3).nilRow 3 1;have Hrow:=qh hrow;have Hcs1:=qh hcs1;have Hcs2:=qh hcs2;replace hS2:=qh hS2;replace hL:=qh hL;have Hhi:=qh hi;clear hi;have Hhz0:=qh hz0;clear hz0;have Hhz1:=qh hz1;clear hz1;have Hhz2:=qh hz2;clear hz2;have Hhj:=qh hj;clear hj;have Hhy0:=qh hy0;clear hy0;have Hhy1:=qh hy1;clear hy1;have Hhy2:=qh hy2;clear hy2;clear hS0 hS1 hrow hcs1 hcs2 hr1 hr2 q1 q2 hd hl3
 go_enter Tryz.func79, Tryz.ntmps79
 go_wp2
 go_loopw [16] (fun i wr=>∃ (s c1 c3:Nat) (a1 a3:Option Addr),i = .int .i64 s∧s≤L∧St w wr [Ent.box w.heap.size #[.slice (some ⟨b1,o1,none⟩) L cv,.slice (some ⟨b2,o2,none⟩) L c2] 25,Ent.box (w.heap.size+1) #[.int .i64 0,.slice none 0 0,.slice none 0 0,.slice none 0 0] 90,
   Ent.row 3 1 (.slice (some ⟨w.heap.size+1+1,0,none⟩) 1 1) 1 [.int .i64 0],Ent.box (w.heap.size+1+1+1) #[.int .i64 L,.slice a1 (mvs d s).length c1,.slice (some ⟨w.heap.size+1+1,0,none⟩) 1 1,.slice a3 (eds d s).length c3] 90,
   Ent.row 135 3 (.slice a1 (mvs d s).length c1) (mvs d s).length ((mvs d s).flatMap Zac),Ent.row 3 1 (.slice a3 (eds d s).length c3) (eds d s).length (intCells (eds d s))])
  (fun i _=>L-(intOf i).toNat)
 case atStart=>exact⟨0,0,0,none,none,rfl,Nat.zero_le _,hS2.out⟩
 case round =>
  obtain⟨s,c1,c3,a1,a3,rfl,hs,hS⟩:=hrel;obtain⟨wo,hwo⟩:∃ wo:World,wo=wr:=⟨_,rfl⟩;subst hwo;by_cases hlt:s<L
  ·have hlt2:(s:Int)<L:=by omega
   obtain⟨ar,cr,hcr,-,-,hIr⟩:=Hcs1.out s hlt;obtain⟨hr3,-⟩:=Hrow.out s (by have:=hL.out;omega);rw[hr3] at hcr hIr;obtain⟨_,_,hform,hrc1,hrc2,hrr⟩:=hIr.form;rw[hr3] at hform hrr hrc1;simp only[Value.slice.injEq,true_and] at hform;obtain⟨rfl,rfl⟩:=hform;obtain⟨b3,o3,rfl,-,hb3,hcs3⟩:=hrr (by omega);have k1:=(bcell hS.bel b1 _ hb1).trans hcr;have hml:=Zco d s;obtain⟨M,hM⟩:=eI (mvs d s);obtain⟨E,hE⟩:=eI (eds d s);have hel:=Zc2 d s;rw[← hM] at hS hml;rw[← hE] at hS hel;have hmle:M.length≤120:=by omega
   have hele:E.length≤40:=by omega
   have Hcs3:=qh hcs3;have Hhml:=qh hml;clear hml;clear hel;have HhS:=qh hS;clear hS;have HhM:=qh hM;clear hM;replace hE:=qh hE;clear hcs3 hrr hIr hcr hr3;go_wp2
   go_loopw [23] (fun i wi=>∃ (c c1:Nat) (a1:Option Addr),i = .int .i64 c∧c≤3∧St w wi [Ent.box w.heap.size #[.slice (some ⟨b1,o1,none⟩) L cv,.slice (some ⟨b2,o2,none⟩) L c2] 25,Ent.box (w.heap.size+1) #[.int .i64 0,.slice none 0 0,.slice none 0 0,.slice none 0 0] 90,
     Ent.row 3 1 (.slice (some ⟨w.heap.size+1+1,0,none⟩) 1 1) 1 [.int .i64 0],Ent.box (w.heap.size+1+1+1) #[.int .i64 L,.slice a1 (M.length+c) c1,.slice (some ⟨w.heap.size+1+1,0,none⟩) 1 1,.slice a3 E.length c3] 90,
     Ent.row 135 3 (.slice a1 (M.length+c) c1) (M.length+c) ((M++(rowM d s).take c).flatMap Zac),Ent.row 3 1 (.slice a3 E.length c3) E.length (intCells E)])
    (fun i _=>3-(intOf i).toNat)
   case atStart=>exact⟨0,c1,a1,rfl,by omega,by rw[List.take_zero,List.append_nil];exact HhS.out⟩
   case round =>
    obtain⟨c,c1,a1,rfl,hc3',hSi⟩:=hrel;by_cases hc:c<3
    ·have hc4:(c:Int)<3:=by omega
     have k2:=(bcell hSi.bel b3 _ hb3).trans (Hcs3.out c hc);have htk:=Zjw d s hc;obtain⟨x,hx⟩:=eI ((d.next.getD s []).getD c 0);rw[← hx] at k2 htk;have e1:=hSi.cell (v:=.slice a1 (M.length+c) c1) 3 1 rfl rfl;have f1:=hSi.fr 3 1 rfl;have hSa:=hSi.alloc_ (.cells #[.int .i64 s,.int .i64 c,.int .i64 x] 135);have hRw:=hSa.row 4 rfl;have HhSi:=qh hSi;clear hSi;have HhSa:=qh hSa;clear hSa;have HhRw:=qh hRw;clear hRw;have Hhx:=qh hx;clear hx;have Hhtk:=qh htk;clear htk;go_wp2_with (at_builtin;refine wpList_append_lies _ rfl _ _ _ rfl _ 135 i0 (.agg #[.int .i64 0,.int .i64 0,.int .i64 0]) 3 24 Tryz.underlying88 Hhi.out Hhz0.out Hhz1.out Hhz2.out rfl (by omega) _ (M.length+c) _ rfl HhRw.out ⟨wr.heap.size,0,none⟩ 1 1 [.int .i64 s,.int .i64 c,.int .i64 x] rfl rfl (World.news_of_block (heap_alloc_new wr _)) Zed (by omega) (by unfold maxLen;omega) (by omega) HhSa.out.size _ rfl ?_;intro g6 c6 w6 hown6 hgrow6 hat6 hlt6;have HS6:=qh (HhSa.out.app 4 rfl hown6 hgrow6 hat6);have y1:=HS6.out.cell (v:=.slice a1 (M.length+c) c1) 3 1 rfl rfl;have y2:=HS6.out.fr 3 1 rfl;clear hown6 hgrow6 hat6 hlt6);go_roundw
     case rel =>refine⟨c+1,c6,some ⟨g6,0,none⟩,by go_num,by omega,?_⟩;rw[Hhtk.out,← List.append_assoc,ZcE];exact HS6.out.set 3 rfl 1 (.slice (some ⟨g6,0,none⟩) (M.length+c+1) c6)
     case measure=>simp[intOf];omega
    obtain rfl:c=3:=by omega
    have hta:(rowM d s).take 3=rowM d s:=List.take_of_length_le (by rw[Zgc];exact Nat.le_refl _);have hM1:M++rowM d s=mvs d (s+1):=by rw[HhM.out];rfl
    have hMl:M.length+3=(mvs d (s+1)).length:=by rw[Zco,Hhml.out];omega
    rw[hta,hM1,hMl] at hSi;have k2:=(bcell hSi.bel b2 _ hb2).trans (Hcs2.out s hlt);have e0:=hSi.cell (v:=.slice (some ⟨b2,o2,none⟩) L c2) 0 1 rfl rfl;have HhSi:=qh hSi;clear hSi;have HhM1:=qh hM1;clear hM1;have HhMl:=qh hMl;clear hMl;clear hta;cases hz:d.ends.getD s false with
    | false =>
     rw[hz] at k2;have hE1:eds d (s+1)=E:=by rw[hE.out];show(if d.ends.getD s false=true then _ else _)=_;rw[hz];rfl
     have HhE1:=qh hE1;clear hE1;have Hhz:=qh hz;clear hz;go_wp2;go_roundw
     case rel =>refine⟨s+1,c1,c3,a1,a3,by go_num,by omega,?_⟩;rw[HhE1.out];exact HhSi.out
     case measure=>simp[intOf];omega
    | true =>
     rw[hz] at k2;have hE1:eds d (s+1)=E++[(s:Int)]:=by rw[hE.out];show(if d.ends.getD s false=true then _ else _)=_;rw[hz];rfl
     have e1:=HhSi.out.cell (v:=.slice a3 E.length c3) 3 3 rfl rfl;have f1:=HhSi.out.fr 3 3 rfl;have hSa:=HhSi.out.alloc_ (.cells #[.int .i64 s] 3);have hRw:=hSa.row 5 rfl;have HhSa:=qh hSa;clear hSa;have HhRw:=qh hRw;clear hRw;have HhE1:=qh hE1;clear hE1;have Hhz:=qh hz;clear hz;go_wp2_with (at_builtin;refine wpList_append_lies _ rfl _ _ _ rfl _ 3 j0 (.int .i64 0) 1 8 Tryz.underlying67 Hhj.out Hhy0.out Hhy1.out Hhy2.out rfl (by omega) _ E.length _ rfl HhRw.out ⟨wr.heap.size,0,none⟩ 1 1 [.int .i64 s] rfl rfl (World.news_of_block (heap_alloc_new wr _)) on_i (by omega) (by unfold maxLen;omega) (by omega) HhSa.out.size _ rfl ?_;intro g6 c6 w6 hown6 hgrow6 hat6 hlt6;have HS6:=qh (HhSa.out.app 5 rfl hown6 hgrow6 hat6);have y1:=HS6.out.cell (v:=.slice a3 E.length c3) 3 3 rfl rfl;have y2:=HS6.out.fr 3 3 rfl;clear hown6 hgrow6 hat6 hlt6);go_roundw
     case rel =>refine⟨s+1,c1,c6,a1,some ⟨g6,0,none⟩,by go_num,by omega,?_⟩;rw[HhE1.out,List.length_append,List.length_singleton,Zoe];exact HS6.out.set 3 rfl 3 (.slice (some ⟨g6,0,none⟩) (E.length+1) c6)
     case measure=>simp[intOf];omega
  obtain rfl:s=L:=by omega
  have hge:(s:Int)≤s:=Int.le_refl _;obtain⟨M,hM⟩:=eI (mvs d s);obtain⟨E,hE⟩:=eI (eds d s);rw[← hM,← hE] at hS;have f0:=hS.fr 1 0 rfl;have f1:=hS.fr 1 1 rfl;have f2:=hS.fr 1 2 rfl;have f3:=hS.fr 1 3 rfl;have k0:=hS.cell (v:=.int .i64 0) 1 0 rfl rfl;have k1:=hS.cell (v:=.slice none 0 0) 1 1 rfl rfl;have k2:=hS.cell (v:=.slice none 0 0) 1 2 rfl rfl;have k3:=hS.cell (v:=.slice none 0 0) 1 3 rfl rfl;have d0:=hS.cell (v:=.int .i64 s) 3 0 rfl rfl;have d1:=hS.cell (v:=.slice a1 M.length c1) 3 1 rfl rfl;have d2:=hS.cell (v:=.slice (some ⟨w.heap.size+1+1,0,none⟩) 1 1) 3 2 rfl rfl;have d3:=hS.cell (v:=.slice a3 E.length c3) 3 3 rfl rfl;have HhS:=qh hS;clear hS;have HhM:=qh hM;clear hM;replace hE:=qh hE;go_wp2;have hq:=(((HhS.out.set 1 rfl 0 (.int .i64 s)).set 1 rfl 1 (.slice a1 M.length c1)).set 1 rfl 2 (.slice (some ⟨w.heap.size+1+1,0,none⟩) 1 1)).set 1 rfl 3 (.slice a3 E.length c3);have q0:=hq.cell (v:=.int .i64 s) 1 0 rfl rfl;have q1:=hq.cell (v:=.slice a1 M.length c1) 1 1 rfl rfl;have q2:=hq.cell (v:=.slice (some ⟨w.heap.size+1+1,0,none⟩) 1 1) 1 2 rfl rfl;have q3:=hq.cell (v:=.slice a3 E.length c3) 1 3 rfl rfl;refine bodyPost_ret (v:=.agg #[.int .i64 s,.slice a1 M.length c1,.slice (some ⟨w.heap.size+1+1,0,none⟩) 1 1,.slice a3 E.length c3]) (by simp[results,Tryz.results79,go_sem,q0,q1,q2,q3]) rfl ?_
  have hr:RNfaS ⟨(s:Int),M,[0],E⟩ w (.returned (.agg #[.int .i64 s,.slice a1 M.length c1,.slice (some ⟨w.heap.size+1+1,0,none⟩) 1 1,.slice a3 E.length c3])) _:=⟨a1,c1,_,1,a3,c3,rfl,hq.pick [4,2,5] (by decide)⟩;have hn:ZaE d=⟨(s:Int),M,[0],E⟩:=by unfold ZaE;rw[← hL.out,HhM.out,hE.out]
  rw[hn];exact hr
def padL (n s:Nat) (cl:Nat→Nat):List Int:=clsL s cl++List.replicate (n-s) 0
def padT (n s:Nat) (cl:Nat→Nat) (t:Nat):List Int:=clsL s cl++((t:Nat):Int)::List.replicate (n-s-1) 0
theorem ZnA (n:Nat) (cl:Nat→Nat):padL n 0 cl=List.replicate n 0:=by simp[padL,clsL]
theorem ZiH (n:Nat) (cl:Nat→Nat):padL n n cl=clsL n cl:=by simp[padL]
theorem Zlu {n s:Nat} (cl:Nat→Nat) (h:s<n):padL n s cl=padT n s cl 0:=by unfold padL padT;rw[show n-s=(n-s-1)+1 by omega,List.replicate_succ];rfl
theorem Zgi {n s:Nat} (cl:Nat→Nat):padT n s cl (cl s)=padL n (s+1) cl:=by unfold padL padT;rw[Ze3,List.append_assoc,show n-(s+1)=n-s-1 by omega];rfl
theorem Zgh {n s:Nat} (cl:Nat→Nat) (t t':Nat):(intCells (padT n s cl t)).set s (.int .i64 ((t':Nat):Int))=intCells (padT n s cl t'):=by unfold intCells;rw[← List.map_set (f:=fun x=>Value.int .i64 x)];congr 1;unfold padT;rw[List.set_append_right _ _ (by rw[ZbG];exact Nat.le_refl _),ZbG,Nat.sub_self];rfl
theorem Zdo {n s:Nat} (cl:Nat→Nat) (t:Nat):(intCells (padT n s cl t))[s]? = some (.int .i64 ((t:Nat):Int)):=by simp[intCells,padT,ZbG]
theorem ZaZ {n s:Nat} (cl:Nat→Nat) (h:s<n):(intCells (clsL n cl))[s]? = some (.int .i64 ((cl s:Nat):Int)):=by simp[intCells,clsL,h]
theorem ZgW {w:World} {B n:Nat} {v:Value} (cl:Nat→Nat) (h:w.ownsRow B 3 1 v n (madeCells (Value.int .i64 0).cells (n*1)).toList):w.ownsRow B 3 1 v n (intCells (padL n 0 cl)):=by
 have e:(madeCells (Value.int .i64 0).cells (n*1)).toList=intCells (padL n 0 cl):=by rw[ZnA];simp[madeCells,Value.cells,intCells,Nat.mod_one,List.map_const']
 rwa [e] at h
theorem Zqe {n:Nat} {a b:Nat→Nat}:clsL n a=clsL n b↔∀ s,s<n→a s=b s:=by
 constructor
 ·intro h s hs;have:=congrArg (fun l=>l.getD s 0) h;simp only[Zi8 a hs,Zi8 b hs] at this;omega
 exact Zfy
theorem St.intsC {w0 w:World} {L:List Ent} (h:St w0 w L) (i:Nat) {v:Value} {n:Nat} {cl:Nat→Nat} (hx:L[i]? = some (Ent.row 3 1 v n (intCells (clsL n cl)))):Ints 0 w v (clsL n cl) :=
 ZdR (B:=w0.heap.size) (e:=3) (by rw[ZbG];exact h.row i hx)
end Go.Proofs.YtfgpkadhegdffaaGreat
