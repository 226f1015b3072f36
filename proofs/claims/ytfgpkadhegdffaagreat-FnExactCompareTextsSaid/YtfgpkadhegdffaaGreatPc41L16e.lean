/-
  The walk over the reference's l16First at mode 2: the first word of the first language alone.
  Conditions: the automata are valid and read as such.
-/
import Derived.Test.YtfgpkadhegdffaaGreatPc40Dfe
set_option maxHeartbeats 8000000
set_option maxRecDepth 100000
namespace Go.Proofs.YtfgpkadhegdffaaGreat
open Go.RowKit Go.Maps
theorem ZhJ (K:Nat) (hK:K=1600) (a b:DfaD) (v1 v2:Value) (w:World) (hda:Zae a.next a.ends=true) (hdb:Zae b.next b.ends=true) (h1:DfaR 0 w v1 a) (h2:DfaR 0 w v2 b) :
  Calls Tryz.prog 87 #[v1,v2,.int .i64 2] w fun e w'=>e=ZaH (hitE K a b)∧Below w.heap.size w w':=by
 obtain⟨u1,u2,rfl,g1,g2⟩:=h1;obtain⟨u3,u4,rfl,g3,g4⟩:=h2;obtain⟨a1,c1,rfl,hc1,hm1,hr1⟩:=g1.formI;obtain⟨a2,c2,rfl,hc2,hm2,hr2⟩:=g2.form;obtain⟨a3,c3,rfl,hc3,hm3,hr3⟩:=g3.formI;obtain⟨a4,c4,rfl,hc4,hm4,hr4⟩:=g4.form;have Hrow1:=qh (fun i hi=>ZaI hda (i:=i) hi);have Hrow2:=qh (fun i hi=>ZaI hdb (i:=i) hi);have hla:=Zah hda;have hlb:=Zah hdb;obtain⟨s0,hsi,hs0,hs1,hs2⟩:=info_parts Tryz.infoStr;obtain⟨i0,hii,hi0,hi1,hi2⟩:=info_parts Tryz.infoInts;have Hin:=qh (fun k=>Zbr (nx:=Zal a b) (a:=(0,0)) (Q:=fun x=>Zbp a b x=true) (ZbQ hda hdb) (fun x c hc hx=>ZbR hda hdb hc hx) k);have Hlen:=qh (fun k=>Zfx hda hdb k);clear g1 g2 g3 g4;replace hda:=qh hda;have Hhdb:=qh hdb;clear hdb;have Hhr1:=qh hr1;clear hr1;have Hhr2:=qh hr2;clear hr2;have Hhr3:=qh hr3;clear hr3;have Hhr4:=qh hr4;clear hr4;have Hhla:=qh hla;clear hla;have Hhlb:=qh hlb;clear hlb;have Hhsi:=qh hsi;clear hsi;have Hhs0:=qh hs0;clear hs0;have Hhs1:=qh hs1;clear hs1;have Hhs2:=qh hs2;clear hs2;have Hhii:=qh hii;clear hii;have Hhi0:=qh hi0;clear hi0;have Hhi1:=qh hi1;clear hi1;have Hhi2:=qh hi2;clear hi2;replace hK:=qh hK
 go_enter Tryz.func87, Tryz.ntmps87
 go_wp2
 go_loopw [6,7,8,9,10] (fun r1 r2 vl vw i wr=>∃ k:Nat,i = .int .i64 k∧k≤(bat (Zal a b) (0,0) k).met.length∧(∀ j,j<k→ZaS (fun x y=>x && !y) a b ((bat (Zal a b) (0,0) k).met.getD j (0,0))=false)∧Below w.heap.size w wr ∧
   Bx wr w.heap.size #[.slice a1 a.next.length c1,.slice a2 a.ends.length c2] 25 ∧ Bx wr (w.heap.size+1) #[.slice a3 b.next.length c3,.slice a4 b.ends.length c4] 25 ∧ L16W (w.heap.size+2) wr.heap.size wr (bat (Zal a b) (0,0) k) vl vw)
  (fun _ _ _ _ i _=>1601-(intOf i).toNat)
 case atStart =>
  have r0:=(((((Bx.new w #[.slice a1 a.next.length c1,.slice a2 a.ends.length c2] 25).alloc (.cells #[.slice a3 b.next.length c3,.slice a4 b.ends.length c4] 25)).alloc (.cells #[.int .i64 0,.int .i64 0] 3)).alloc (.cells #[.slice (some ⟨w.heap.size+1+1,0,none⟩) 2 2] 67)).alloc (.cells #[.string { data:=#[] }] 9));have r1:=((((Bx.new (w.alloc (.cells #[.slice a1 a.next.length c1,.slice a2 a.ends.length c2] 25)) #[.slice a3 b.next.length c3,.slice a4 b.ends.length c4] 25).alloc (.cells #[.int .i64 0,.int .i64 0] 3)).alloc (.cells #[.slice (some ⟨w.heap.size+1+1,0,none⟩) 2 2] 67)).alloc (.cells #[.string { data:=#[] }] 9));have r2:=((Bx.new ((w.alloc (.cells #[.slice a1 a.next.length c1,.slice a2 a.ends.length c2] 25)).alloc (.cells #[.slice a3 b.next.length c3,.slice a4 b.ends.length c4] 25)) #[.int .i64 0,.int .i64 0] 3).alloc (.cells #[.slice (some ⟨w.heap.size+1+1,0,none⟩) 2 2] 67)).alloc (.cells #[.string { data:=#[] }] 9);have r3:=(Bx.new (((w.alloc (.cells #[.slice a1 a.next.length c1,.slice a2 a.ends.length c2] 25)).alloc (.cells #[.slice a3 b.next.length c3,.slice a4 b.ends.length c4] 25)).alloc (.cells #[.int .i64 0,.int .i64 0] 3)) #[.slice (some ⟨w.heap.size+1+1,0,none⟩) 2 2] 67).alloc (.cells #[.string { data:=#[] }] 9)
  have r4:=Bx.new ((((w.alloc (.cells #[.slice a1 a.next.length c1,.slice a2 a.ends.length c2] 25)).alloc (.cells #[.slice a3 b.next.length c3,.slice a4 b.ends.length c4] 25)).alloc (.cells #[.int .i64 0,.int .i64 0] 3)).alloc (.cells #[.slice (some ⟨w.heap.size+1+1,0,none⟩) 2 2] 67)) #[.string { data:=#[] }] 9;simp only[World.size_alloc] at r0 r1 r2 r3 r4;have hbs:=(((((Below.refl w.heap.size w).alloc (Nat.le_refl _) (.cells #[.slice a1 a.next.length c1,.slice a2 a.ends.length c2] 25)).alloc (by simp) (.cells #[.slice a3 b.next.length c3,.slice a4 b.ends.length c4] 25)).alloc (by simp;omega) (.cells #[.int .i64 0,.int .i64 0] 3)).alloc (by simp;omega) (.cells #[.slice (some ⟨w.heap.size+1+1,0,none⟩) 2 2] 67)).alloc (by simp;omega) (.cells #[.string { data:=#[] }] 9);refine⟨0,rfl,by simp[bat],fun j hj=>absurd hj (by omega),hbs,r0,r1,⟨[.slice (some ⟨w.heap.size+1+1,0,none⟩) 2 2],?_,fun i hi => ?_,fun i j' k' hij hj' => ?_⟩,?_⟩
  ·exact Zab (Zca (cs:=[.slice (some ⟨w.heap.size+1+1,0,none⟩) 2 2]) r3 rfl (by omega) (by unfold maxLen;omega))
  ·simp only[bat,List.map_cons,List.map_nil,List.length_singleton] at hi;obtain rfl:i=0:=by omega
   exact Zab (Zca (cs:=[.int .i64 0,.int .i64 0]) r2 rfl (by omega) (by unfold maxLen;omega))
  ·simp only[bat,List.map_cons,List.map_nil,List.length_singleton] at hj';omega
  exact Zca (cs:=[.string { data:=#[] }]) r4 rfl (by omega) (by unfold maxLen;omega)
 case round =>
  obtain⟨k,rfl,hk,hno,hb,hx0,hx1,hl⟩:=hrel;obtain⟨S,hS⟩:=eI (bat (Zal a b) (0,0) k);have hgood:=ZaD (nx:=Zal a b) (a:=(0,0)) k;have hR:=Hin.out k;have hML:=Hlen.out k;unfold metP at hML;rw[← hS] at hk hno hl hgood hR hML;have hMp:0<S.met.length:=by rw[hS];exact Zcv k
  obtain⟨g,off,cap,rfl,hcap,hcm,hgl,hrows⟩:=hl.row hMp;obtain⟨gw,cw,rfl,hcw,hcmw,hgwl,hws⟩:=hl.word (by rw[hgood.2.1];exact hMp);rw[hgood.2.1] at hcw hws hl;rw[hgood.2.1];obtain⟨wo,hwo⟩:∃ wo:World,wo=wr:=⟨_,rfl⟩;subst hwo;have x0:=hx0.cell 1;have x1:=hx1.cell 1;have x2:=hx0.cell 0;have x3:=hx1.cell 0;simp only[List.getElem?_toArray,List.getElem?_cons_zero,List.getElem?_cons_succ] at x0 x1 x2 x3;have Hhl:=qh hl;clear hl;have Hhb:=qh hb;clear hb;have HhS:=qh hS;clear hS;have Hhno:=qh hno;clear hno;have Hhgood:=qh hgood;clear hgood;have HhR:=qh hR;clear hR;have Hhx0:=qh hx0;clear hx0;have Hhx1:=qh hx1;clear hx1;by_cases hlt:k<S.met.length
  ·obtain⟨rb,ro,rc,hq0,hrc1,hrc2,hrb,hq1,hq2⟩:=hrows k hlt;obtain⟨i,j,hp,hi,hj⟩:=Za2 (HhR.out _ (memD (d:=(0,0)) hlt));rw[hp] at hq1 hq2;simp only at hq1 hq2;have hwk:=hws k hlt;obtain⟨wd,hwd⟩:=eI (S.words.getD k []);rw[← hwd] at hwk;obtain⟨q2,o2,rfl,-,hbl2,hcs2⟩:=Hhr2.out (by have:=Hhla.out;omega);obtain⟨q4,o4,rfl,-,hbl4,hcs4⟩:=Hhr4.out (by have:=Hhlb.out;omega);have ea0:=(bcell Hhb.out q2 (o2+i) hbl2).trans (hcs2 i (by have:=Hhla.out;omega));have eb0:=(bcell Hhb.out q4 (o4+j) hbl4).trans (hcs4 j (by have:=Hhlb.out;omega));obtain⟨ea,hea⟩:=eI (a.ends.getD i false);obtain⟨eb,heb⟩:=eI (b.ends.getD j false);rw[← hea] at ea0;rw[← heb] at eb0;have hie:(i:Int)<a.ends.length:=by have:=Hhla.out;omega
   have hje:(j:Int)<b.ends.length:=by have:=Hhlb.out;omega
   have hkS:(k:Int)<S.met.length:=by omega
   have hends:ZaS (fun x y=>x && !y) a b (S.met.getD k (0,0))=(ea && !eb):=by rw[hp,hea,heb];rfl
   have Hhp:=qh hp;clear hp;have Hhwd:=qh hwd;clear hwd;have Hhea:=qh hea;clear hea;have Hheb:=qh heb;clear heb;have Hhends:=qh hends;clear hends;clear hcs2 hcs4 hrows hws;have h3:(ea=true∧eb=false)∨ea=false∨(ea=true∧eb=true):=by cases ea<;>cases eb<;>simp
   rcases h3 with⟨rfl,rfl⟩|rfl|⟨rfl,rfl⟩
   ·have hends':=Hhends.out;have Hhends':=qh hends';clear hends';go_wp2
    go_quiet (fail)
    go_wp2
    go_quiet (fail)
    go_wp2
    go_ret2
    refine⟨?_,below_drewN Hhb.out _⟩;unfold hitE;rw[ZdV (s:=S) (d:=(0,0)) (by rw[HhS.out];exact Zdc (by have:=hK.out;omega)) Hhgood.out.2.1 (ZaD _).2.1 hlt Hhno.out Hhends'.out,← Hhwd.out];rfl
   all_goals
    go_wp2
    go_quiet (fail)
    go_wp2
    go_quiet (fail)
    go_wp2
    go_loopw [8,9,13] (fun vl vw i wi=>∃ n:Nat,i = .int .i64 n∧n≤3∧Below w.heap.size w wi∧Bx wi w.heap.size #[.slice a1 a.next.length c1,.slice (some ⟨q2,o2,none⟩) a.ends.length c2] 25 ∧ Bx wi (w.heap.size+1) #[.slice a3 b.next.length c3,.slice (some ⟨q4,o4,none⟩) b.ends.length c4] 25 ∧ L16W (w.heap.size+2) wi.heap.size wi (bpart (Zal a b) (0,0) k n) vl vw)
     (fun _ _ i _=>3-(intOf i).toNat)
    case atStart =>
     have hdd:=fun m=>below_drewN (Below.refl wo.heap.size wo) m
     exact⟨0,rfl,by omega,below_drewN Hhb.out _,Hhx0.out.below (hdd _) Hhx0.out.lt,Hhx1.out.below (hdd _) Hhx1.out.lt,by rw[Zam,← HhS.out];exact(Hhl.out.below (hdd _)).up (hdd _).size⟩
    case round =>
     obtain⟨n,rfl,hn,hbi,hy0,hy1,hli⟩:=hrel;have hkS':k<(bat (Zal a b) (0,0) k).met.length:=by rw[← HhS.out];exact hlt
     have hpS:(bat (Zal a b) (0,0) k).met.getD k (0,0)=((i:Int),(j:Int)):=by rw[← HhS.out];exact Hhp.out
     obtain⟨wp,hwp⟩:∃ wp:World,wp=wr:=⟨_,rfl⟩;subst hwp;clear x0 x1 x2 x3 ea0 eb0 hq0 hq1 hq2 hwk;by_cases hn3:n<3
     ·have hTg:=ZbD hkS' hn;have hTl:(bpart (Zal a b) (0,0) k n).met.length≤1600:=Nat.le_trans (Zay hkS' hn (show k<k+1 by omega)).1.length_le (Hlen.out (k+1));have hle:=ZaY (nx:=Zal a b) (a:=(0,0)) (k:=k) (Nat.zero_le n);rw[Zam,← HhS.out] at hle;have hold:=Zbf (nx:=Zal a b) (a:=(0,0)) (k:=k) (n:=n);have hnew:=Za4 (nx:=Zal a b) (a:=(0,0)) (k:=k) (n:=n);rw[hpS] at hold hnew;rw[← HhS.out,← Hhwd.out] at hnew;obtain⟨T,hT⟩:=eI (bpart (Zal a b) (0,0) k n);rw[← hT] at hli hold hnew hTg hTl hle;have hkT:k<T.met.length:=Nat.lt_of_lt_of_le hlt hle.1.length_le;have hpT:T.met.getD k (0,0)=((i:Int),(j:Int)):=(Zao hle.1 hlt _).trans Hhp.out;have hwT:T.words.getD k []=wd:=(Zao hle.2 (by rw[Hhgood.out.2.1];exact hlt) _).trans Hhwd.out.symm;obtain⟨g',off',cap',rfl,hcap',hcm',hgl',hrows'⟩:=hli.row (by omega);obtain⟨gw',cw',rfl,hcw',hcmw',hgwl',hws'⟩:=hli.word (by rw[hTg.2.1];omega);rw[hTg.2.1] at hcw' hws' hli;rw[hTg.2.1];have hwk:=hws' k hkT;rw[hwT] at hwk;obtain⟨rb',ro',rc',hq0,hrc1',hrc2',hrb',hq1,hq2⟩:=hrows' k hkT;rw[hpT] at hq1 hq2;simp only at hq1 hq2;have x2:=hy0.cell 0;have x3:=hy1.cell 0;simp only[List.getElem?_toArray,List.getElem?_cons_zero] at x2 x3;obtain⟨q1,o1,rfl,-,hbl1,hcs1⟩:=Hhr1.out (by omega);obtain⟨q3,o3,rfl,-,hbl3,hcs3⟩:=Hhr3.out (by omega);obtain⟨r1,s1,hc1',hl1',hm1',hI1⟩:=hcs1 i hi;obtain⟨r3,s3,hc3',hl3',hm3',hI3⟩:=hcs3 j hj;obtain⟨hL1,hT1⟩:=Hrow1.out i hi;obtain⟨hL3,hT3⟩:=Hrow2.out j hj;obtain⟨ra,hra⟩:=eI (a.next.getD i []);obtain⟨rb,hrb⟩:=eI (b.next.getD j [])
      rw[← hra] at hc1' hl1' hI1 hL1;rw[← hrb] at hc3' hl3' hI3 hL3;obtain⟨_,_,he1,-,-,hf1⟩:=hI1.form;obtain⟨_,_,he3,-,-,hf3⟩:=hI3.form;simp only[Value.slice.injEq,true_and] at he1 he3;obtain⟨rfl,rfl⟩:=he1;obtain⟨rfl,rfl⟩:=he3;obtain⟨z1,t1,rfl,-,hz1',hg1⟩:=hf1 (by omega);obtain⟨z3,t3,rfl,-,hz3',hg3⟩:=hf3 (by omega);rw[hL1] at hc1' hl1';rw[hL3] at hc3' hl3';have k1:=(bcell hbi q1 (o1+i) hbl1).trans hc1';have k3:=(bcell hbi q3 (o3+j) hbl3).trans hc3';have k2:=(bcell hbi z1 (t1+n) hz1').trans (hg1 n (by omega));have k4:=(bcell hbi z3 (t3+n) hz3').trans (hg3 n (by omega));obtain⟨ta,hta⟩:=eI (ra.getD n 0);obtain⟨tb,htb⟩:=eI (rb.getD n 0);rw[← hta] at k2;rw[← htb] at k4;have hstep:Zal a b ((i:Int),(j:Int)) n=(ta,tb):=by simp only[Zal,Int.toNat_natCast,← hra,← hrb,← hta,← htb]
      rw[hstep] at hold hnew;have hiA:(i:Int)<a.next.length:=by omega
      have hjB:(j:Int)<b.next.length:=by omega
      have hn4:(n:Int)<3:=by omega
      have hkT2:(k:Int)<T.met.length:=by omega
      have hww:=hbi.size;have HhT:=qh hT;clear hT;have Hhold:=qh hold;clear hold;have Hhnew:=qh hnew;clear hnew;have HhTg:=qh hTg;clear hTg;have Hhle:=qh hle;clear hle;have HhpT:=qh hpT;clear hpT;have HhwT:=qh hwT;clear hwT;have Hhli:=qh hli;clear hli;have Hhbi:=qh hbi;clear hbi;have Hhy0:=qh hy0;clear hy0;have Hhy1:=qh hy1;clear hy1;have Hhra:=qh hra;clear hra;have Hhrb:=qh hrb;clear hrb;have Hhta:=qh hta;clear hta;have Hhtb:=qh htb;clear htb;have Hhstep:=qh hstep;clear hstep;have Hhrows':=qh hrows';clear hrows';have Hhws':=qh hws';clear hws';have HhpS:=qh hpS;clear hpS;have HhL1:=qh hL1;clear hL1;have HhL3:=qh hL3;clear hL3;clear hcs1 hcs3 hg1 hg3 hc1' hc3' hI1 hI3 hT1 hT3;go_wp2
      go_region_held3 (fun w'=>w'.cell? ⟨w.heap.size,0,none⟩=some (.slice (some ⟨q1,o1,none⟩) a.next.length c1)∧w'.cell? ⟨w.heap.size+1,0,none⟩=some (.slice (some ⟨q3,o3,none⟩) b.next.length c3)∧w'.cell? ⟨q1,o1+i,none⟩=some (.slice (some ⟨z1,t1,none⟩) 3 s1)∧w'.cell? ⟨q3,o3+j,none⟩=some (.slice (some ⟨z3,t3,none⟩) 3 s3)∧w'.cell? ⟨z1,t1+n,none⟩=some (.int .i64 ta)∧w'.cell? ⟨z3,t3+n,none⟩=some (.int .i64 tb) ∧
        w'.cell? ⟨g',off'+k,none⟩=some (.slice (some ⟨rb',ro',none⟩) 2 rc')∧w'.cell? ⟨rb',ro',none⟩=some (.int .i64 i)∧w'.cell? ⟨rb',ro'+1,none⟩=some (.int .i64 j))
       (first|go_keep) (fail)
      obtain⟨w3,hw3⟩:=eI ((wp.alloc (.cells #[.int .i64 ta,.int .i64 tb] 3)).drew);have hb3:Below wp.heap.size wp w3:=by rw[hw3];exact((Below.refl _ _).alloc (Nat.le_refl _) _).drew
      have x5:Bx w3 wp.heap.size #[.int .i64 ta,.int .i64 tb] 3:=by rw[hw3];exact(Bx.new wp _ _).drew
      have hz3:wp.heap.size<w3.heap.size:=by rw[hw3];simp
      rw[← hw3];have Hhw3:=qh hw3;clear hw3;have Hhb3:=qh hb3;clear hb3;have Hx5:=qh x5;clear x5;clear k1 k2 k3 k4 hq0 hq1 hq2 x2 x3;go_wp2
      go_loopw [15,16] (fun f jj wj=>∃ m:Nat,jj = .int .i64 m∧m≤T.met.length∧(∃ fb:Bool,f = .bool fb∧fb = !decide ((ta,tb)∈T.met.take m))∧Below w3.heap.size w3 wj) (fun _ jj _=>T.met.length-(intOf jj).toNat)
      case atStart=>exact⟨0,rfl,Nat.zero_le _,⟨true,rfl,by simp⟩,Below.refl _ _⟩
      case round =>
       obtain⟨m,rfl,hm,⟨fb,rfl,hfb⟩,hbj⟩:=hrel;have hb3j:Below wp.heap.size wp wr:=Hhb3.out.trans (hbj.mono Hhb3.out.size);by_cases hmT:m<T.met.length
       ·obtain⟨rm,om,cm',hr0,hrc3,hrc4,hrmb,hr1',hr2'⟩:=Hhrows'.out m hmT;replace hr0:=(bcell hb3j g' _ hgl').trans hr0;replace hr1':=(bcell hb3j rm _ hrmb).trans hr1';replace hr2':=(bcell hb3j rm _ hrmb).trans hr2';have y5:=Hx5.out.below hbj Hx5.out.lt;have e0:=y5.cell 0;have e1:=y5.cell 1;simp only[List.getElem?_toArray,List.getElem?_cons_zero,List.getElem?_cons_succ] at e0 e1;obtain⟨p,hpp⟩:=eI (T.met.getD m (0,0));rw[← hpp] at hr1' hr2';obtain⟨xm,ym⟩:=p;simp only at hr1' hr2';have htk:T.met.take (m+1)=T.met.take m++[(xm,ym)]:=by rw[List.take_succ_eq_append_getElem hmT,← Zba (d:=(0,0)) hmT,← hpp]
        have hmT2:(m:Int)<T.met.length:=by omega
        have Hhpp:=qh hpp;clear hpp;have Hhtk:=qh htk;clear htk;have Hhfb:=qh hfb;clear hfb;have Hhbj:=qh hbj;clear hbj;have Hhb3j:=qh hb3j;clear hb3j;have Hy5:=qh y5;clear y5;have Hend:=qh (fun (b':Bool) (h:b' = !decide ((ta,tb)∈T.met.take (m+1))) (q:Nat)=>(show(∃ m':Nat,Value.int .i64 ((m:Int)+1) = .int .i64 (m':Int)∧m'≤T.met.length∧(∃ fb:Bool,Value.bool b' = .bool fb∧fb = !decide ((ta,tb)∈T.met.take m'))∧Below w3.heap.size w3 (wr.drewN q)) from⟨m+1,by go_num,by omega,⟨b',rfl,h⟩,below_drewN Hhbj.out _⟩));cases fb
        ·go_wp2
         go_quiet (fail)
         go_wp2;go_roundw
         case rel =>
          refine Hend.out false ?_ _;have h1:(ta,tb)∈T.met.take m:=by have:=Hhfb.out;simpa using this.symm
          rw[Hhtk.out];simp[h1]
         case measure=>simp[intOf];omega
        by_cases hxe:xm=ta
        ·subst hxe;by_cases hye:ym=tb
         ·subst hye;go_wp2
          go_quiet (fail)
          go_wp2;go_roundw
          case rel=>exact Hend.out false (by rw[Hhtk.out];simp) _
          case measure=>simp[intOf];omega
         have hg1:(ym != tb)=true:=by simpa using hye
         have hg2:(!(ym==tb))=true:=by simpa using hye
         have Hhye:=qh hye;clear hye;go_wp2
         go_quiet (fail)
         go_wp2;go_roundw
         case rel =>
          refine Hend.out true ?_ _;have h1:¬ (xm,tb)∈T.met.take m:=by have:=Hhfb.out;simpa using this.symm
          rw[Hhtk.out];simp[h1,Ne.symm Hhye.out]
         case measure=>simp[intOf];omega
        have hg1:(xm != ta)=true:=by simpa using hxe
        have hg2:(!(xm==ta))=true:=by simpa using hxe
        have Hhxe:=qh hxe;clear hxe;go_wp2
        go_quiet (fail)
        go_wp2;go_roundw
        case rel =>
         refine Hend.out true ?_ _;have h1:¬ (ta,tb)∈T.met.take m:=by have:=Hhfb.out;simpa using this.symm
         rw[Hhtk.out];simp[h1,Ne.symm Hhxe.out]
        case measure=>simp[intOf];omega
       obtain rfl:m=T.met.length:=by omega
       rw[List.take_length] at hfb;have hBj:Below w.heap.size w wr:=Hhbi.out.trans (hb3j.mono Hhbi.out.size);have hyj0:=Hhy0.out.below hb3j Hhy0.out.lt;have hyj1:=Hhy1.out.below hb3j Hhy1.out.lt;have hlj:=Hhli.out.below hb3j;have hsj:=hbj.size;by_cases hmem:(ta,tb)∈T.met
       ·rw[decide_eq_true hmem] at hfb;have hbo:=Hhold.out hmem;simp only[Bool.not_true] at hfb;subst hfb;have Hhbo:=qh hbo;clear hbo;have Hhmem:=qh hmem;clear hmem;have Hhbj:=qh hbj;clear hbj;have Hhb3j:=qh hb3j;clear hb3j;replace hBj:=qh hBj;have Hhyj0:=qh hyj0;clear hyj0;have Hhyj1:=qh hyj1;clear hyj1;have Hhlj:=qh hlj;clear hlj;go_wp2;go_roundw
        case rel=>exact⟨n+1,by go_num,by omega,hBj.out,Hhyj0.out,Hhyj1.out,by rw[Hhbo.out];exact Hhlj.out.up (by omega)⟩
        case measure=>simp[intOf];omega
       rw[decide_eq_false hmem] at hfb;have hbn:=Hhnew.out hmem;simp only[Bool.not_false] at hfb;subst hfb;have Hhbn:=qh hbn;clear hbn;have Hhmem:=qh hmem;clear hmem;have Hhbj:=qh hbj;clear hbj;have Hhb3j:=qh hb3j;clear hb3j;replace hBj:=qh hBj;have Hhyj0:=qh hyj0;clear hyj0;have Hhyj1:=qh hyj1;clear hyj1;have Hhlj:=qh hlj;clear hlj;have hal:=(Below.refl wr.heap.size wr).alloc (Nat.le_refl _) (.cells #[.slice (some ⟨wp.heap.size,0,none⟩) 2 2] 67);obtain⟨vs,hv1,hv2,hv3⟩:=(Hhlj.out.below hal).li;have hv1':=hv1.1;rw[List.length_map] at hv1';have Hhal:=qh hal;clear hal;have Hhv1:=qh hv1;clear hv1;have Hhv2:=qh hv2;clear hv2;have Hhv3:=qh hv3;clear hv3;have Hhv1':=qh hv1';clear hv1';go_wp2_with (at_builtin;refine wpList_append_lies _ rfl _ _ _ rfl (w.heap.size+2) 67 i0 (.slice none 0 0) 1 24 Tryz.underlying22 Hhii.out Hhi0.out Hhi1.out Hhi2.out rfl (by omega) _ T.met.length _ rfl Hhv1'.out ⟨wr.heap.size,0,none⟩ 1 1 [.slice (some ⟨wp.heap.size,0,none⟩) 2 2] rfl rfl (World.news_of_block (heap_alloc_new wr _)) (by intro u hu;simp at hu;subst hu;rfl) (by omega) (by unfold maxLen;omega) (by omega) (by have:=hBj.out.size;simp;omega) _ rfl ?_;intro g4 c4 w4 hown4 hgrow4 hat4 hlt4;have Hown4:=qh hown4;have Hgrow4:=qh (show(wr.alloc (.cells #[.slice (some ⟨wp.heap.size,0,none⟩) 2 2] 67)).grownBy w4 _ from hgrow4);clear hown4 hgrow4 hat4)
       have ap4:∀ e,67 ≠ e→Zbo (wr.alloc (.cells #[.slice (some ⟨wp.heap.size,0,none⟩) 2 2] 67)) _ e:=fun e he=>Zaf Hhv1'.out he
       have hli4:OIntSS 67 3 (w.heap.size+2) w4.heap.size w4 (.slice (some ⟨g4,0,none⟩) (T.met.length+1) c4) (T.met.map ZcH++[[ta,tb]]):=by refine OIntSS.snoc Hhv1.out Hhv2.out Hhv3.out (lr:=wp.heap.size) (hr:=(wr.alloc (.cells #[.slice (some ⟨wp.heap.size,0,none⟩) 2 2] 67)).heap.size) (rv:=.slice (some ⟨wp.heap.size,0,none⟩) 2 2) ?_ (Nat.le_refl _) (by have:=Hhy1.out.lt;omega) (by decide) Hgrow4.out (by rw[List.length_map];exact Hown4.out);have hx:=(Hx5.out.below Hhbj.out Hx5.out.lt).below Hhal.out (by have:=Hhbj.out.size;omega);exact Zab (Zca (cs:=[.int .i64 ta,.int .i64 tb]) hx rfl (Nat.le_refl _) (by unfold maxLen;omega))
       have hwo4:=Zac (Hhlj.out.below Hhal.out).wo Hgrow4.out (ap4 _ (by decide));have hx40:=(Hhyj0.out.below Hhal.out Hhyj0.out.lt).grown Hgrow4.out (ap4 _ (by decide));have hx41:=(Hhyj1.out.below Hhal.out Hhyj1.out.lt).grown Hgrow4.out (ap4 _ (by decide));have hB4:Below w.heap.size w w4:=(hBj.out.alloc hBj.out.size _).grown Hgrow4.out (Nat.le_trans hBj.out.size (by simp)) (fun j hj=>Nat.le_trans (Nat.le_add_right _ 2) (World.ownsRow.lt Hhv1'.out j hj).1);have hTw:T.words.length=T.met.length:=HhTg.out.2.1;rw[hTw] at hwo4;have hk4:w4.cell? ⟨gw',k,none⟩=some (.string (wdB wd)):=by rw[hwo4.cellAt k (by omega),← HhwT.out];simp[show k<T.words.length by omega]
       have hlt4:gw'<w4.heap.size:=(hwo4.lt gw' rfl).2;have hs1:(wdB wd).size≤100000:=by have:=Zer (nx:=Zal a b) (a:=(0,0)) k wd (by rw[Hhwd.out,HhS.out];exact memD (by rw[(ZaD k).2.1];exact hkS'));rw[Zdw];omega
       have hs2:(wdB [n]).size≤100:=by rw[Zdw];simp
       have hw97:IntKind.i64.wrap (97+(n:Int))=97+(n:Int):=IntWalk.i64_in _ (by omega);have Hhli4:=qh hli4;clear hli4;have Hhwo4:=qh hwo4;clear hwo4;have Hhx40:=qh hx40;clear hx40;have Hhx41:=qh hx41;clear hx41;replace hB4:=qh hB4;have HhTw:=qh hTw;clear hTw;have hw8:=ZeS n hn3;have b1:=(Below.refl w4.heap.size w4).alloc (Nat.le_refl _) (.cells #[.int .u8 (97+(n:Int))] 5);have b2:=b1.alloc (by simp) (.cells #[.string (wdB wd++wdB [n])] 9);have hcv:=Zgm n hn3 (w4.alloc (.cells #[.int .u8 (97+(n:Int))] 5)).drew w4.heap.size 1 (ZdD _ _ _ 0);have kk1:(w4.alloc (.cells #[.int .u8 (97+(n:Int))] 5)).drew.cell? ⟨gw',k,none⟩=some (.string (wdB wd)):=(bcell b1 _ _ hlt4).trans hk4;have kk2:((w4.alloc (.cells #[.int .u8 (97+(n:Int))] 5)).alloc (.cells #[.string (wdB wd++wdB [n])] 9)).drew.cell? ⟨gw',k,none⟩=some (.string (wdB wd)):=(bcell b2 _ _ hlt4).trans hk4;have hwo5:((w4.alloc (.cells #[.int .u8 (97+(n:Int))] 5)).alloc (.cells #[.string (wdB wd++wdB [n])] 9)).drew.ownsRow (w.heap.size+2) 9 1 _ T.met.length (wdCells T.words):=(Own.below (Zab Hhwo4.out) b2.drew).1;have hx5:=(Hhx40.out.below b2.drew Hhx40.out.lt).cell 0
       have hn5:((w4.alloc (.cells #[.int .u8 (97+(n:Int))] 5)).alloc (.cells #[.string (wdB wd++wdB [n])] 9)).drew.heap[w4.heap.size+1]? = some (.cells #[.string (wdB wd++wdB [n])] 9 (0,0)):=by have:=heap_alloc_new (w4.alloc (.cells #[.int .u8 (97+(n:Int))] 5)) (.cells #[.string (wdB wd++wdB [n])] 9);simp only[World.size_alloc] at this;exact this
       have hx6:=Hhx40.out.cell 0;simp only[List.getElem?_toArray,List.getElem?_cons_zero] at hx5 hx6;have hw4s:w.heap.size+2≤w4.heap.size:=by have:=(Hhwo4.out.lt gw' rfl).1;omega
       replace b1:=qh b1;have Hb2:=qh b2;clear b2;have Hhwo5:=qh hwo5;clear hwo5;have Hhn5:=qh hn5;clear hn5;have hadd:∀ w':World,(Op.stringOp .add (wdB wd) (wdB [n])).run Tryz.prog w' = .ok (.string (wdB wd++wdB [n])) w':=fun w'=>run_string_add_sum w' _ _ (by omega)
       have hnlt:¬ 9223372036854775807<(wdB wd).size+(wdB [n]).size:=by omega
       go_region_law (first|(refine step_append_lies _ (by rfl) _ _ _ (by rfl) (w.heap.size+2) 9 s0 (.string { data:=#[] }) 1 16 Tryz.underlying102 Hhsi.out Hhs0.out Hhs1.out Hhs2.out (by rfl) (by omega) _ T.met.length (wdCells T.words) (by rfl) Hhwo5.out ⟨w4.heap.size+1,0,none⟩ 1 1 [.string (wdB wd++wdB [n])] (by rfl) (by rfl) (World.news_of_block Hhn5.out) (by intro u hu;simp at hu;subst hu;rfl) (by omega) (by unfold maxLen;omega) (by omega) (by simp;omega) _ (by rfl) ?_;intro g7 c7 w7 hown7 hgrow7 hat7 hlt7;have hx7:w7.cell? ⟨w.heap.size,0,none⟩=some (.slice (some ⟨q1,o1,none⟩) a.next.length c1):=(((Hhx40.out.below Hb2.out.drew Hhx40.out.lt).grown hgrow7 (Zaf Hhwo5.out (by decide))).cell 0);have Hown7:=qh hown7;have Hgrow7:=qh hgrow7;clear hown7 hgrow7 hat7))
       all_goals
        go_wp2;go_roundw
        case rel =>
         have ap7:∀ e,9 ≠ e→Zbo ((w4.alloc (.cells #[.int .u8 (97+(n:Int))] 5)).alloc (.cells #[.string (wdB wd++wdB [n])] 9)).drew _ e:=fun e he=>Zaf Hhwo5.out he
         have hl7:=((Hhli4.out.below Hb2.out.drew).grown Hgrow7.out (ap7 _ (by decide)) (ap7 _ (by decide))).mono (hi':=w7.heap.size) (Nat.le_refl _) (by have:=Hgrow7.out.size;simp at this;omega);have hb7:Below w.heap.size w w7:=(hB4.out.trans (Hb2.out.drew.mono hB4.out.size)).grown Hgrow7.out (by simp;omega) (fun j hj=>Nat.le_trans (Nat.le_add_right _ 2) (World.ownsRow.lt Hhwo5.out j hj).1);have hy70:=(Hhx40.out.below Hb2.out.drew Hhx40.out.lt).grown Hgrow7.out (ap7 _ (by decide));have hy71:=(Hhx41.out.below Hb2.out.drew Hhx41.out.lt).grown Hgrow7.out (ap7 _ (by decide))
         have hL7:L16W (w.heap.size+2) w7.heap.size w7 ⟨T.met++[(ta,tb)],T.words++[wd++[n]]⟩ (.slice (some ⟨g4,0,none⟩) (T.met.length+1) c4) (.slice (some ⟨g7,0,none⟩) (T.met.length+1) c7):=by
          refine⟨?_,?_⟩
          ·simp only[List.map_append,List.map_cons,List.map_nil];exact hl7
          have h:=Hown7.out;simp only[List.length_append,List.length_singleton,HhTw.out,wdCells,List.map_append,List.map_cons,List.map_nil,Zhk];exact h
         have hd7:=(Below.refl w7.heap.size w7).drew;refine⟨n+1,by go_num,by omega,?_,?_,?_,?_⟩
         ·first|exact hb7|exact hb7.drew
         ·first|exact hy70|exact hy70.below hd7 hy70.lt
         ·first|exact hy71|exact hy71.below hd7 hy71.lt
         rw[Hhbn.out]
         first|exact hL7|exact hL7.below hd7
        case measure=>simp[intOf];omega
     obtain rfl:n=3:=by omega
     have Hhbi:=qh hbi;clear hbi;have Hhy0:=qh hy0;clear hy0;have Hhy1:=qh hy1;clear hy1;have Hhli:=qh hli;clear hli;go_wp2;go_roundw
     case rel =>
      have hbs:=ZaG hkS';have hle:=ZaY (nx:=Zal a b) (a:=(0,0)) (k:=k) (Nat.zero_le 3);rw[Zam,← HhS.out] at hle;have hll:=hle.1.length_le;refine⟨k+1,by go_num,by rw[hbs];omega,fun j' hj' => ?_,Hhbi.out,Hhy0.out,Hhy1.out,by rw[hbs];exact Hhli.out⟩;rw[hbs,Zao hle.1 (by omega)];by_cases hjk:j'<k
      ·exact Hhno.out j' hjk
      obtain rfl:j'=k:=by omega
      rw[Hhends.out];simp
     case measure=>simp[intOf];omega
  go_wp2
  go_ret2
  have hkS:k=S.met.length:=by omega
  refine⟨?_,Hhb.out⟩;unfold hitE;rw[Zbb (k:=k) (by rw[← HhS.out];omega) (by have:=hK.out;omega),← HhS.out,Zc6 (d:=(0,0)) (by rw[← hkS];exact Hhno.out)];rfl
end Go.Proofs.YtfgpkadhegdffaaGreat
