/-
  The walk over the program's sameRow.
  Conditions: the automaton is valid; the classes are a list of numbers, one for each state; all reads as such.
-/
import Derived.Test.YtfikabecgaappaaGreatPr10Md
set_option maxHeartbeats 4000000
set_option maxRecDepth 100000
namespace Go.Proofs.YtfikabecgaappaaGreat
open Go.RowKit
def clsL (n:Nat) (cl:Nat→Nat):List Int:=(List.range n).map fun s=>(cl s:Int)
theorem Zbh (n:Nat) (cl:Nat→Nat):(clsL n cl).length=n:=by simp[clsL]
theorem Zht {n s:Nat} (cl:Nat→Nat) (h:s<n):(clsL n cl).getD s 0=(cl s:Int):=by simp[clsL,h]
def Zdx (d:DfaD) (cl:Nat→Nat) (s o:Nat) (k:Nat):Bool:=(List.range k).all fun c=>decide (cl (nxD d s c)=cl (nxD d o c))
theorem Zgo (d:DfaD) (cl:Nat→Nat) (s o k:Nat):Zdx d cl s o (k+1)=(Zdx d cl s o k&&decide (cl (nxD d s k)=cl (nxD d o k))):=by unfold Zdx;rw[List.range_succ,List.all_append];simp
theorem ZmF {d:DfaD} {cl:Nat→Nat} {s o k:Nat} (hk:k<3) (h:cl (nxD d s k)≠cl (nxD d o k)):Zdx d cl s o 3=false:=by
 cases he:Zdx d cl s o 3 with
 | false=>rfl
 | true =>have:=List.all_eq_true.1 he k (List.mem_range.2 hk);exact absurd (by simpa using this) h
theorem Ziy (d:DfaD) (cl:Nat→Nat) (s o:Nat) (dv cv:Value) (w:World) (hd:Zae d.next d.ends=true) (hs:s<d.next.length) (ho:o<d.next.length) (hcl:∀ t,t<d.next.length→cl t<d.next.length) (h:DfaR 0 w dv d) (hc:Ints 0 w cv (clsL d.next.length cl)) (r:Bool) (hr:Zdx d cl s o 3=r) :
  Calls Tryz.prog 150 #[dv,cv,.int .i64 s,.int .i64 o] w fun e w'=>e = .returned (.bool r)∧Below w.heap.size w w':=by
 obtain⟨v1,v2,rfl,q1,q2⟩:=h;have hf:=ZaB hd;obtain⟨L,hL⟩:=eI (d.next.length);obtain⟨hl1,hl2,-⟩:=Zac hd;have hrow:=fun (i:Nat) (hi:i<d.next.length)=>(ZaD hd hi).1
 have hnx:=fun (i c:Nat) (hi:i<d.next.length) (h3:c<3)=>(Zbz hf hi h3)
 obtain⟨av,cvv,rfl,hc1,hc2,hr1⟩:=q1.formI;obtain⟨b1,o1,rfl,-,hb1,hcs1⟩:=hr1 (by omega);obtain⟨ac,cc,rfl,hc3,hc4,hr2⟩:=hc.form;rw[Zbh] at hc3 hr2;rw[Zbh];obtain⟨b2,o2,rfl,-,hb2,hcs2⟩:=hr2 (by omega);have hcell:∀ t,t<d.next.length→w.cell? ⟨b2,o2+t,none⟩=some (.int .i64 (cl t:Nat)):=fun t ht=>by rw[hcs2 t ht,Zht cl ht]
 obtain⟨ax,cs,hks,-,-,hIs⟩:=hcs1 s hs;obtain⟨ao,co,hko,-,-,hIo⟩:=hcs1 o ho;rw[hrow s hs] at hks hIs;rw[hrow o ho] at hko hIo;obtain⟨_,_,hform,-,-,hrs⟩:=hIs.form;rw[hrow s hs] at hform hrs;simp only[Value.slice.injEq,true_and] at hform;obtain⟨rfl,rfl⟩:=hform;obtain⟨b3,o3,rfl,-,hb3,hcs3⟩:=hrs (by omega);obtain⟨_,_,hform,-,-,hro⟩:=hIo.form;rw[hrow o ho] at hform hro;simp only[Value.slice.injEq,true_and] at hform;obtain⟨rfl,rfl⟩:=hform;obtain⟨b4,o4,rfl,-,hb4,hcs4⟩:=hro (by omega)
 have hval:∀ i c,i<d.next.length→c<3→(d.next.getD i []).getD c 0=((nxD d i c:Nat):Int):=fun i c hi h3=>by
  have:=(hnx i c hi h3).2;unfold dnx at this
  rwa [Int.toNat_natCast] at this
 have hS0:=(St.start w).alloc _ rfl #[.slice (some ⟨b1,o1,none⟩) d.next.length cvv,v2] 37;have Hnx:=qh hnx;have Hval:=qh hval;have Hcell:=qh hcell;have Hks:=qh hks;have Hko:=qh hko;have Hcs3:=qh hcs3;have Hcs4:=qh hcs4;have Hcl:=qh hcl;rw[← hL] at hs ho hl1 hl2 hS0;rw[← hL];have hsI:(s:Int)<L:=by omega
 have hoI:(o:Int)<L:=by omega
 replace hS0:=qh hS0;have Hhr:=qh hr;clear hr;replace hL:=qh hL;clear hnx hval hcell hks hko hcs3 hcs4 hcl hcs1 hcs2 hr1 hr2 hrs hro hIs hIo q1 q2 hc hd hrow hf
 go_enter Tryz.func150, Tryz.ntmps150
 go_wp2
 go_loopw [10] (fun i wr=>∃ k:Nat,i = .int .i64 k∧k≤3∧Zdx d cl s o k=true∧St w wr [Ent.box w.heap.size #[.slice (some ⟨b1,o1,none⟩) L cvv,v2] 37]) (fun i _=>3-(intOf i).toNat)
 case atStart=>exact⟨0,rfl,by omega,rfl,hS0.out⟩
 case round =>
  obtain⟨k,rfl,hk,hsm,hS⟩:=hrel;by_cases hlt:k<3
  ·have hlt2:(k:Int)<3:=by omega
   have hsn:s<d.next.length:=by have:=hL.out;omega
   have hon:o<d.next.length:=by have:=hL.out;omega
   have h1:=(Hnx.out s k hsn hlt).1;have h2:=(Hnx.out o k hon hlt).1;have e0:=hS.cell (v:=.slice (some ⟨b1,o1,none⟩) L cvv) 0 0 rfl rfl;have e1:=(bcell hS.bel b1 _ hb1).trans Hks.out;have e2:=(bcell hS.bel b1 _ hb1).trans Hko.out;have e3:=(bcell hS.bel b3 _ hb3).trans (Hcs3.out k hlt);have e4:=(bcell hS.bel b4 _ hb4).trans (Hcs4.out k hlt);rw[Hval.out s k hsn hlt] at e3;rw[Hval.out o k hon hlt] at e4;have e5:=(bcell hS.bel b2 _ hb2).trans (Hcell.out _ h1);have e6:=(bcell hS.bel b2 _ hb2).trans (Hcell.out _ h2);have hsucc:=Zgo d cl s o k;obtain⟨p,hp⟩:=eI (nxD d s k);obtain⟨q,hq⟩:=eI (nxD d o k);rw[← hp] at h1 e3 e5 hsucc;rw[← hq] at h2 e4 e6 hsucc;rw[hsm,Bool.true_and] at hsucc;rw[← hL.out] at h1 h2;have hpI:(p:Int)<L:=by omega
   have hqI:(q:Int)<L:=by omega
   have Hhp:=qh hp;clear hp;have Hhq:=qh hq;clear hq;have HhS:=qh hS;clear hS;have Hhsm:=qh hsm;clear hsm;have Hhsucc:=qh hsucc;clear hsucc;clear h1 h2 hsn hon;by_cases he:cl p=cl q
   ·have heI:((cl p:Int) != (cl q:Int))=false:=by rw[he];simp
    have heI2:((cl p:Int)=(cl q:Int))=True:=by simp[he]
    have heI3:(!((cl p:Int)==(cl q:Int)))=false:=by rw[he];simp
    have Hhe:=qh he;clear he;go_wp2
    go_quiet (fail)
    go_wp2;go_roundw
    case rel=>exact⟨k+1,by go_num,by omega,by rw[Hhsucc.out];simp[Hhe.out],HhS.out.drewN _⟩
    case measure=>simp[intOf];omega
   have heI:((cl p:Int) != (cl q:Int))=true:=by simp;omega
   have heI2:((cl p:Int)=(cl q:Int))=False:=by simp;omega
   have heI3:(!((cl p:Int)==(cl q:Int)))=true:=by simp;omega
   have Hhe:=qh he;clear he;go_wp2
   go_quiet (fail)
   go_wp2;go_ret;have hrf:false=r:=by rw[← Hhr.out];exact(ZmF hlt (by rw[← Hhp.out,← Hhq.out];exact Hhe.out)).symm
   subst hrf;exact⟨rfl,(HhS.out.drewN _).bel⟩
  obtain rfl:k=3:=by omega
  have hrt:true=r:=by rw[← Hhr.out,hsm]
  subst hrt;have HhS:=qh hS;clear hS;have Hhsm:=qh hsm;clear hsm;go_wp2;go_ret;exact⟨rfl,HhS.out.bel⟩
def Zcy (l:List Int) (x:Int):Int:=if x∈l then((l.idxOf x:Nat):Int) else -1
theorem ZhT {l:List Int} {x:Int} {k:Nat} (hk:k<l.length) (hn:x ∉ l.take k) (h:l.getD k 0=x):Zcy l x=(k:Int):=by
 have hx:l[k]=x:=by simpa [hk] using h
 have hm:x∈l:=by rw[← hx];exact List.getElem_mem hk
 unfold Zcy;rw[if_pos hm];have e:l=l.take k++(x::l.drop (k+1)):=by rw[← hx,List.getElem_cons_drop,List.take_append_drop]
 have:l.idxOf x=k:=by rw[e,List.idxOf_append,if_neg hn];simp;omega
 rw[this]
theorem Zgw (l:List Int) (x:Int) (v:Value) (w:World) (hl:l.length≤1000000) (h:Ints 0 w v l) :
  Calls Tryz.prog 187 #[v,.int .i64 x] w fun e w'=>e = .returned (.int .i64 (Zcy l x))∧Below w.heap.size w w':=by
 obtain⟨a,c,rfl,hc1,hc2,hr⟩:=h.form;have Hr:=qh hr;clear hr h
 go_enter Tryz.func187, Tryz.ntmps187
 go_wp2
 go_loopw [5] (fun i wr=>∃ k:Nat,i = .int .i64 k∧k≤l.length∧x ∉ l.take k∧Below w.heap.size w wr) (fun i _=>l.length-(intOf i).toNat)
 case atStart=>exact⟨0,rfl,Nat.zero_le _,by simp,Below.refl _ _⟩
 case round =>
  obtain⟨k,rfl,hk,hn,hb⟩:=hrel;by_cases hlt:k<l.length
  ·have hlt2:(k:Int)<l.length:=by omega
   obtain⟨b,o,rfl,-,hbl,hcs⟩:=Hr.out (by omega);have k1:=(bcell hb b _ hbl).trans (hcs k hlt);have htk:l.take (k+1)=l.take k++[l.getD k 0]:=by rw[List.take_succ_eq_append_getElem hlt];simp[hlt]
   obtain⟨y,hy⟩:=eI (l.getD k 0);rw[← hy] at k1 htk;replace hy:=qh hy;replace hb:=qh hb;have Hhtk:=qh htk;clear htk;clear hcs;by_cases he:y=x
   ·subst he;have hnm:Zcy l y=(k:Int):=ZhT hlt hn hy.out.symm;have Hhn:=qh hn;clear hn;have Hhnm:=qh hnm;clear hnm;go_wp2;go_ret;refine⟨?_,hb.out⟩;rw[Hhnm.out];rfl
   have he2:(y=x)=False:=by simp[he]
   have he3:(y==x)=false:=by simpa using he
   have Hhn:=qh hn;clear hn;have Hhe:=qh he;clear he;go_wp2;go_roundw
   case rel=>exact⟨k+1,by go_num,by omega,by rw[Hhtk.out];simp only[List.mem_append,List.mem_singleton,not_or];exact⟨Hhn.out,fun e=>Hhe.out e.symm⟩,hb.out⟩
   case measure=>simp[intOf];omega
  obtain rfl:k=l.length:=by omega
  rw[List.take_length] at hn;have hnm:Zcy l x = -1:=by unfold Zcy;rw[if_neg hn]
  have Hhn:=qh hn;clear hn;replace hb:=qh hb;have Hhnm:=qh hnm;clear hnm;go_wp2;go_ret;refine⟨?_,hb.out⟩;rw[Hhnm.out];rfl
section
variable {n:Nat} {nx:Nat→Nat→Nat}
def clR (n:Nat) (nx:Nat→Nat→Nat) (en:Nat→Bool):Nat→Nat→Nat
 | 0=>fun s=>if en s=true then 1 else 0
 | i+1=>Zao n nx (clR n nx en i)
theorem ZiE (hnx:∀ s c,s<n→c<3→nx s c<n) {cl cl':Nat→Nat} (h:∀ s t,s<n→t<n→(cl s=cl t↔cl' s=cl' t)) {s:Nat} (hs:s<n):Zao n nx cl s=Zao n nx cl' s:=by
 unfold Zao;refine Zc6 fun t ht => ?_
 rw[Bool.eq_iff_iff,Zat,Zat,h t s ht hs];constructor
 ·rintro⟨a,b⟩;exact⟨a,fun c hc=>(h _ _ (hnx t c ht hc) (hnx s c hs hc)).1 (b c hc)⟩
 rintro⟨a,b⟩;exact⟨a,fun c hc=>(h _ _ (hnx t c ht hc) (hnx s c hs hc)).2 (b c hc)⟩
theorem ZjF (hnx:∀ s c,s<n→c<3→nx s c<n) (en:Nat→Bool):∀ i,(∀ s t,s<n→t<n→(clR n nx en i s=clR n nx en i t↔clAt n nx en i s=clAt n nx en i t))∧(0<i→∀ s,s<n→clR n nx en i s=clAt n nx en i s)
 | 0=>⟨fun s t hs ht=>by rw[ZgE hs ht];unfold clR;cases en s<;>cases en t<;>simp,fun h=>absurd h (by omega)⟩
 | i+1=>by
  have ih:=(ZjF hnx en i).1;have h2:∀ s,s<n→clR n nx en (i+1) s=clAt n nx en (i+1) s:=fun s hs=>ZiE hnx ih hs
  exact⟨fun s t hs ht=>by rw[h2 s hs,h2 t ht],fun _=>h2⟩
theorem Zgj (hnx:∀ s c,s<n→c<3→nx s c<n) (en:Nat→Bool) (i:Nat):stays n nx en i↔∀ k j,k<n→j<k→(clR n nx en i j=clR n nx en i k↔clR n nx en (i+1) j=clR n nx en (i+1) k):=by
 have h0:=(ZjF hnx en i).1;have h1:=(ZjF hnx en (i+1)).1;constructor
 ·intro h k j hk hj;rw[h0 j k (by omega) hk,h1 j k (by omega) hk,h j (by omega),h k hk]
 intro h
 have key:∀ k j,k<n→j≤k→(clAt n nx en i j=clAt n nx en i k↔clAt n nx en (i+1) j=clAt n nx en (i+1) k):=fun k j hk hj=>by
  by_cases e:j=k
  ·rw[e];exact⟨fun _=>rfl,fun _=>rfl⟩
  have:=h k j hk (by omega)
  rwa [h0 j k (by omega) hk,h1 j k (by omega) hk] at this
 intro s hs;have g0:=Zdc (n:=n) (nx:=nx) en i;have g1:=Zdc (n:=n) (nx:=nx) en (i+1);have a1:=g1.le s hs;have b1:=g0.le s hs;have a2:=(key s _ hs a1).2 (g1.id s hs);have b2:=(key s _ hs b1).1 (g0.id s hs);have a3:=g0.le (clAt n nx en (i+1) s) (by omega);have b3:=g1.le (clAt n nx en i s) (by omega);omega
theorem Zlj {cl:Nat→Nat} (hg:GoodC n cl) {k:Nat} (hk:k<n):Zcy (clsL n cl) (cl k:Int)=(cl k:Int):=by have h1:=hg.le k hk;have h2:=hg.id k hk;refine ZhT (by rw[Zbh];omega) (fun hm => ?_) (by rw[Zht cl (by omega),h2]);obtain⟨i,hi,e⟩:=List.getElem_of_mem hm;simp only[List.length_take,Zbh] at hi;rw[List.getElem_take] at e;simp only[clsL,List.getElem_map,List.getElem_range] at e;have:=hg.le i (by omega);omega
def lowK (n:Nat) (nx:Nat→Nat→Nat) (cl:Nat→Nat) (k m x:Nat):Prop:=x=Zao n nx cl k∨(x=k∧∀ t,m≤t→t<k→Zbn nx cl t k=false)
theorem Zj7 (cl:Nat→Nat) (k:Nat):lowK n nx cl k k k:=Or.inr ⟨rfl,fun t h1 h2=>by omega⟩
theorem ZmT {cl:Nat→Nat} {k m:Nat} (hk:k<n) (hm:m<n) (h:Zbn nx cl m k=true):lowK n nx cl k m (Zao n nx cl m):=Or.inl ((Zbq hm hk).2 h)
theorem ZnZ {cl:Nat→Nat} {k m x:Nat} (h:Zbn nx cl m k=false) (hl:lowK n nx cl k (m+1) x):lowK n nx cl k m x:=by
 rcases hl with h1|⟨h1,h2⟩
 ·exact Or.inl h1
 refine Or.inr ⟨h1,fun t a b => ?_⟩;by_cases e:t=m
 ·rw[e];exact h
 exact h2 t (by omega) b
theorem ZmU {cl:Nat→Nat} {k x:Nat} (hk:k<n) (hl:lowK n nx cl k 0 x):x=Zao n nx cl k:=by
 rcases hl with h1|⟨h1,h2⟩
 ·exact h1
 obtain⟨a1,a2,a3⟩:=ZaN (nx:=nx) (cl:=cl) hk;by_cases e:Zao n nx cl k<k
 ·have:=h2 _ (Nat.zero_le _) e;rw[this] at a2;exact absurd a2 (by simp)
 omega
end
theorem Zes {n:Nat} {cl cl':Nat→Nat} (h:∀ s,s<n→cl s=cl' s):clsL n cl=clsL n cl':=List.map_congr_left fun s hs=>by rw[h s (List.mem_range.1 hs)]
theorem Zd3 (k:Nat) (cl:Nat→Nat):clsL (k+1) cl=clsL k cl++[(cl k:Int)]:=by unfold clsL;rw[List.range_succ,List.map_append];rfl
theorem Zjd (d:DfaD) (cl:Nat→Nat) (t s:Nat):Zbn (nxD d) cl t s=(decide (cl t=cl s)&&Zdx d cl t s 3):=rfl
def inL (M:List Int) (n:Nat):List Bool:=(List.range n).map fun (s:Nat)=>decide ((s:Int)∈M)
theorem Zm6 (M:List Int) (n x:Nat):inL (M++[(x:Int)]) n=(inL M n).set x true:=by
 apply List.ext_getElem?;intro i;rw[List.getElem?_set];by_cases hin:i<n
 ·by_cases hx:x=i
  ·subst hx;simp[inL,hin]
  have:¬ (i:Int)=(x:Int):=by omega
  simp[inL,hin,hx,this]
 by_cases hx:x=i
 ·subst hx;simp[inL,hin]
 simp[inL,hin,hx]
theorem Zn2 (n:Nat):inL [] n=List.replicate n false:=by apply List.ext_getElem?;intro i;by_cases hin:i<n<;>simp[inL,hin]
theorem Zjs {M:List Int} {n s:Nat} (h:s<n):(boolCells (inL M n))[s]? = some (.bool (decide ((s:Int)∈M))):=by simp[inL,h]
theorem ZlD {M:List Int} {n x:Nat}:(boolCells (inL M n)).set x (.bool true)=boolCells (inL (M++[(x:Int)]) n):=by rw[Zm6];simp[boolCells,List.map_set]
theorem ZmS {w:World} {B n:Nat} {v:Value} (h:w.ownsRow B 4 1 v n (madeCells (Value.bool false).cells (n*1)).toList):w.ownsRow B 4 1 v n (boolCells (inL [] n)):=by
 have e:(madeCells (Value.bool false).cells (n*1)).toList=boolCells (inL [] n):=by rw[Zn2];simp[madeCells,Value.cells,boolCells,Nat.mod_one,List.map_const']
 rwa [e] at h
theorem ZiO (d:DfaD) (v:Value) (w:World) (hd:Zae d.next d.ends=true) (h:DfaR 0 w v d) (F:List Int) (hF:(bat (dnx d) 0 d.next.length).met=F) :
  Calls Tryz.prog 186 #[v] w fun e w'=>∃ a c,e = .returned (.slice a F.length c)∧St w w' [Ent.row 3 1 (.slice a F.length c) F.length (intCells F)]:=by
 obtain⟨v1,v2,rfl,q1,q2⟩:=h;have hf:=ZaB hd;obtain⟨L,hL⟩:=eI (d.next.length);obtain⟨hl1,hl2,-⟩:=Zac hd;have hrow:=fun (i:Nat) (hi:i<d.next.length)=>(ZaD hd hi).1
 have hnx:=fun (i c:Nat) (hi:i<d.next.length) (h3:c<3)=>(Zbz hf hi h3)
 have hmet:=fun (K:Nat)=>Zbd hf K
 obtain⟨av,cvv,rfl,hc1,hc2,hr1⟩:=q1.formI;obtain⟨b1,o1,rfl,-,hb1,hcs1⟩:=hr1 (by omega);obtain⟨i0,hi,hz0,hz1,hz2⟩:=info_parts Tryz.infoBool;obtain⟨j0,hj,hy0,hy1,hy2⟩:=info_parts Tryz.infoInt;have hS0:=(((St.start w).alloc _ rfl #[.slice (some ⟨b1,o1,none⟩) d.next.length cvv,v2] 37).alloc (w.heap.size+1) (by simp) #[.int .i64 0] 3).boxrow 1 1 1 [.int .i64 0] rfl rfl (by unfold maxLen;omega);rw[← hL] at hl1 hl2 hS0 hF;rw[← hL];have hL0:(0:Int)<L:=by omega
 have hL00:0<L:=by omega
 have Hrow:=qh hrow;have Hnx:=qh hnx;have Hmet:=qh hmet;have Hcs1:=qh hcs1;replace hS0:=qh hS0;replace hL:=qh hL;replace hF:=qh hF;have Hhi:=qh hi;clear hi;have Hhz0:=qh hz0;clear hz0;have Hhz1:=qh hz1;clear hz1;have Hhz2:=qh hz2;clear hz2;have Hhj:=qh hj;clear hj;have Hhy0:=qh hy0;clear hy0;have Hhy1:=qh hy1;clear hy1;have Hhy2:=qh hy2;clear hy2;clear hrow hnx hmet hcs1 hr1 q1 q2 hf hd
 go_enter Tryz.func186, Tryz.ntmps186
 have HD:=qh (show ∀ w1:World,w1.ownsRow ((w.alloc (.cells #[.slice (some ⟨b1,o1,none⟩) L cvv,v2] 37)).alloc (.cells #[.int .i64 0] 3)).heap.size 4 1 (.slice (some ⟨w.heap.size+1+1,0,none⟩) L L) L (boolCells (inL [] L))→Below ((w.alloc (.cells #[.slice (some ⟨b1,o1,none⟩) L cvv,v2] 37)).alloc (.cells #[.int .i64 0] 3)).heap.size ((w.alloc (.cells #[.slice (some ⟨b1,o1,none⟩) L cvv,v2] 37)).alloc (.cells #[.int .i64 0] 3)) w1 →
   St w w1 [Ent.box w.heap.size #[.slice (some ⟨b1,o1,none⟩) L cvv,v2] 37,Ent.row 3 1 (.slice (some ⟨w.heap.size+1,0,none⟩) 1 1) 1 [.int .i64 0],Ent.row 4 1 (.slice (some ⟨w.heap.size+1+1,0,none⟩) L L) L (boolCells (inL [] L))] from fun w1 h1 h2=>hS0.out.made h2 h1)
 go_wp2_with (at_make;refine wpList_make_full _ rfl _ _ 35 rfl _ 4 i0 (.bool false) 1 Tryz.underlying35 Hhi.out Hhz0.out Hhz1.out .i64 .i64 _ _ L rfl rfl rfl rfl (by rw[Hhz2.out];omega) (by unfold maxLen;omega) (Nat.le_refl _) ?_;intro w1 hown hgrow;have hm:=ZmS hown;simp only[World.size_alloc] at hm;have HS1:=qh (HD.out w1 (by simpa only [World.size_alloc] using hm) ((Below.refl _ _).grown hgrow (Nat.le_refl _) (fun _ h=>by cases h)));have f0:=HS1.out.rfr 2 0 rfl;have k0:=HS1.out.rcell (v:=.bool false) 2 0 rfl (by omega) (by rw[Zjs (by omega)];simp);clear hown hgrow hm);clear f0 k0
 go_loopw [3,5] (fun vo i wr=>∃ (k:Nat) (g cap:Nat),i = .int .i64 k∧vo = .slice (some ⟨g,0,none⟩) (bat (dnx d) 0 k).met.length cap∧k≤(bat (dnx d) 0 k).met.length ∧
   St w wr [Ent.box w.heap.size #[.slice (some ⟨b1,o1,none⟩) L cvv,v2] 37,Ent.row 3 1 (.slice (some ⟨g,0,none⟩) (bat (dnx d) 0 k).met.length cap) (bat (dnx d) 0 k).met.length (intCells (bat (dnx d) 0 k).met),Ent.row 4 1 (.slice (some ⟨w.heap.size+1+1,0,none⟩) L L) L (boolCells (inL (bat (dnx d) 0 k).met L))])
  (fun _ i _=>L+1-(intOf i).toNat)
 case atStart =>refine⟨0,_,_,rfl,rfl,Nat.zero_le _,?_⟩;have h:=HS1.out.store 2 rfl 0 (.bool true);have e:=ZlD (M:=[]) (n:=L) (x:=0);rw[e] at h;exact h
 case round =>
  obtain⟨k,g,cap,rfl,rfl,hk,hS⟩:=hrel;obtain⟨S,hSS⟩:=eI (bat (dnx d) 0 k);have hML:=(Hmet.out k).2;have hMi:=(Hmet.out k).1;rw[← hSS] at hk hS hML hMi;rw[← hSS];rw[← hL.out] at hML hMi;by_cases hlt:k<S.met.length
  ·have hlt2:(k:Int)<S.met.length:=by omega
   have hkS:k<(bat (dnx d) 0 k).met.length:=by rw[← hSS];exact hlt
   obtain⟨x,hx⟩:∃ x:Nat,S.met.getD k 0=(x:Int):=⟨(S.met.getD k 0).toNat,by have:=(hMi _ (Zck hlt (d:=0))).1;omega⟩;have hxL:x<L:=by have:=(hMi _ (Zck hlt (d:=0))).2;omega
   have hxb:(bat (dnx d) 0 k).met.getD k 0=(x:Int):=by rw[← hSS];exact hx
   obtain⟨ax,cx,hks,-,-,hIs⟩:=Hcs1.out x (by rw[← hL.out];exact hxL);have hr3:=Hrow.out x (by rw[← hL.out];exact hxL);rw[hr3] at hks hIs;obtain⟨_,_,hform,-,-,hrs⟩:=hIs.form;rw[hr3] at hform hrs;simp only[Value.slice.injEq,true_and] at hform;obtain⟨rfl,rfl⟩:=hform;obtain⟨b3,o3,rfl,-,hb3,hcs3⟩:=hrs (by omega);have Hcs3:=qh hcs3;have hxI:(x:Int)<L:=by omega
   have HhS:=qh hS;clear hS;have HhSS:=qh hSS;clear hSS;have HhMi:=qh hMi;clear hMi;have HhkS:=qh hkS;clear hkS;have Hhx:=qh hx;clear hx;have Hhxb:=qh hxb;clear hxb;have Hhr3:=qh hr3;clear hr3;have Hhks:=qh hks;clear hks;clear hIs hrs hcs3;go_wp2
   go_loopw [3,6] (fun vo i wi=>∃ (c:Nat) (g cap:Nat),i = .int .i64 c∧vo = .slice (some ⟨g,0,none⟩) (bpart (dnx d) 0 k c).met.length cap∧c≤3 ∧
     St w wi [Ent.box w.heap.size #[.slice (some ⟨b1,o1,none⟩) L cvv,v2] 37,Ent.row 3 1 (.slice (some ⟨g,0,none⟩) (bpart (dnx d) 0 k c).met.length cap) (bpart (dnx d) 0 k c).met.length (intCells (bpart (dnx d) 0 k c).met),Ent.row 4 1 (.slice (some ⟨w.heap.size+1+1,0,none⟩) L L) L (boolCells (inL (bpart (dnx d) 0 k c).met L))])
    (fun _ i _=>3-(intOf i).toNat)
   case atStart =>refine⟨0,g,cap,rfl,by rw[Zaq,← HhSS.out],by omega,?_⟩;rw[Zaq,← HhSS.out];exact HhS.out
   case round =>
    obtain⟨c,g,cap,rfl,rfl,hc3,hSi⟩:=hrel;obtain⟨wp,hwp⟩:∃ wp:World,wp=wr:=⟨_,rfl⟩;subst hwp;by_cases hc:c<3
    ·have hTS:=(Zbx (nx:=dnx d) (a:=0) (k:=k) (Nat.zero_le c)).1;rw[Zaq,← HhSS.out] at hTS;have hold:=Zbw (nx:=dnx d) (a:=0) (k:=k) (n:=c);have hnew:=Zbe (nx:=dnx d) (a:=0) (k:=k) (n:=c);rw[Hhxb.out] at hold hnew;obtain⟨hyL,hyx⟩:=Hnx.out x c (by rw[← hL.out];exact hxL) hc
     have hval:(d.next.getD x []).getD c 0=((nxD d x c:Nat):Int):=by
      unfold dnx at hyx
      rwa [Int.toNat_natCast] at hyx
     rw[hyx] at hold hnew;rw[← hL.out] at hyL;obtain⟨y,hy⟩:=eI (nxD d x c);rw[← hy] at hold hnew hval hyL;have hold':(y:Int)∈(bpart (dnx d) 0 k c).met→(bpart (dnx d) 0 k (c+1)).met=(bpart (dnx d) 0 k c).met:=fun h=>by rw[hold h]
     have hnew':(y:Int) ∉ (bpart (dnx d) 0 k c).met→(bpart (dnx d) 0 k (c+1)).met=(bpart (dnx d) 0 k c).met++[(y:Int)]:=fun h=>by rw[hnew h]
     clear hold hnew;have hle:=(ZaA (nx:=dnx d) (a:=0) (m:=k+1) HhkS.out (show c≤3 by omega) (by omega)).1.length_le;have hML2:=(Hmet.out (k+1)).2;rw[← hL.out] at hML2;obtain⟨T1,hT1⟩:=eI ((bpart (dnx d) 0 k (c+1)).met);obtain⟨T,hT⟩:=eI ((bpart (dnx d) 0 k c).met);rw[← hT] at hSi hTS hold' hnew' hle;rw[← hT1] at hold' hnew';rw[← hT];have hTL:T.length≤L:=by omega
     have hkT:k<T.length:=Nat.lt_of_lt_of_le hlt hTS.length_le;have hxT:T.getD k 0=(x:Int):=(Zay hTS hlt _).trans Hhx.out;have e0:=hSi.cell (v:=.slice (some ⟨b1,o1,none⟩) L cvv) 0 0 rfl rfl;have e1:=hSi.rcell (v:=.int .i64 (x:Int)) 1 k rfl (by omega) (by rw[← hxT];simp[intCells,hkT]);have e2:=(bcell hSi.bel b1 _ hb1).trans Hhks.out;have e3:=(bcell hSi.bel b3 _ hb3).trans (Hcs3.out c hc);rw[hval] at e3;have e4:=hSi.rcell (v:=.bool (decide ((y:Int)∈T))) 2 y rfl (by omega) (Zjs hyL);have e5:=hSi.rfr 2 y rfl;have hc4:(c:Int)<3:=by omega
     have hyI:(y:Int)<L:=by omega
     have hkT2:(k:Int)<T.length:=by omega
     have hset:=ZlD (M:=T) (n:=L) (x:=y);clear hle hML2;have HhSi:=qh hSi;clear hSi;have Hhy:=qh hy;clear hy;have Hhold':=qh hold';clear hold';have Hhnew':=qh hnew';clear hnew';have HhT1:=qh hT1;clear hT1;have HhT:=qh hT;clear hT;have HhTS:=qh hTS;clear hTS;have HhxT:=qh hxT;clear hxT;have Hhval:=qh hval;clear hval;have Hhyx:=qh hyx;clear hyx;have Hhset:=qh hset;clear hset;by_cases hmem:(y:Int)∈T
     ·have hdm:decide ((y:Int)∈T)=true:=by simpa using hmem
      rw[hdm] at e4;have hT1o:=Hhold'.out hmem;have HhT1o:=qh hT1o;clear hT1o;have Hhdm:=qh hdm;clear hdm;have Hhmem:=qh hmem;clear hmem;go_wp2
      go_quiet (fail)
      go_wp2;go_roundw
      case rel =>refine⟨c+1,g,cap,by go_num,by rw[← HhT1.out,HhT1o.out],by omega,?_⟩;rw[← HhT1.out,HhT1o.out];exact HhSi.out.drewN _
      case measure=>simp[intOf];omega
     have hdm:decide ((y:Int)∈T)=false:=by simpa using hmem
     rw[hdm] at e4;have hT1n:=Hhnew'.out hmem;have HhT1n:=qh hT1n;clear hT1n;have Hhdm:=qh hdm;clear hdm;have Hhmem:=qh hmem;clear hmem;go_wp2
     go_quiet (fail)
     have hSs:=((HhSi.out.drewN nq).store 2 rfl y (.bool true)).alloc_ (.cells #[.int .i64 (y:Int)] 3);rw[Hhset.out] at hSs;have hR:=hSs.row 1 rfl;have hal:=heap_alloc_new ((wp.drewN nq).setCell ⟨w.heap.size+1+1,y,none⟩ (.bool true)) (.cells #[.int .i64 (y:Int)] 3);rw[ZaF,show(wp.drewN nq).heap.size=wp.heap.size from rfl] at hal;have Hhal:=qh hal;clear hal;have HhSs:=qh hSs;clear hSs;have HhR:=qh hR;clear hR;go_wp2_with (at_builtin;refine wpList_append_lies _ rfl _ _ _ rfl _ 3 j0 (.int .i64 0) 1 8 Tryz.underlying26 Hhj.out Hhy0.out Hhy1.out Hhy2.out rfl (by omega) _ T.length _ rfl HhR.out ⟨wp.heap.size,0,none⟩ 1 1 [.int .i64 (y:Int)] rfl rfl (World.news_of_block Hhal.out) Zbb (by omega) (by unfold maxLen;omega) (by omega) HhSs.out.size _ rfl ?_;intro g6 c6 w6 hown6 hgrow6 hat6 hlt6;have HS6:=qh (HhSs.out.app 1 rfl hown6 hgrow6 hat6);clear hown6 hgrow6 hat6 hlt6);go_roundw
     case rel =>refine⟨c+1,g6,c6,by go_num,by rw[← HhT1.out,HhT1n.out,List.length_append];rfl,by omega,?_⟩;rw[← HhT1.out,HhT1n.out,List.length_append,Zar];exact HS6.out
     case measure=>simp[intOf];omega
    obtain rfl:c=3:=by omega
    have hbs:bat (dnx d) 0 (k+1)=bpart (dnx d) 0 k 3:=ZaH HhkS.out;have hTS:=(Zbx (nx:=dnx d) (a:=0) (k:=k) (Nat.zero_le 3)).1.length_le;rw[Zaq,← HhSS.out] at hTS;have Hhbs:=qh hbs;clear hbs;have HhSi:=qh hSi;clear hSi;go_wp2;go_roundw
    case rel=>exact⟨k+1,g,cap,by go_num,by rw[Hhbs.out],by rw[Hhbs.out];omega,by rw[Hhbs.out];exact HhSi.out⟩
    case measure=>simp[intOf];omega
  obtain rfl:k=S.met.length:=by omega
  have hfin:F=S.met:=by have h:=Zbj (nx:=dnx d) (a:=0) (k:=S.met.length) (m:=L) (by rw[← hSS];omega) hML;rw[← hF.out,h,← hSS]
  subst hfin;have HhS:=qh hS;clear hS;have HhSS:=qh hSS;clear hSS;go_wp2;go_ret;exact⟨_,_,rfl,HhS.out.pick [1] (by decide)⟩
theorem Zj6 {d:DfaD} (hd:Zae d.next d.ends=true) {k c:Nat} (hk:k<(bat (dnx d) 0 d.next.length).met.length) (hc:c<3):dnx d ((bat (dnx d) 0 d.next.length).met.getD k 0) c∈(bat (dnx d) 0 d.next.length).met:=by
 have hm:=(Zbd (ZaB hd) d.next.length).2;have hkl:k<d.next.length:=by omega
 have hkk:k<(bat (dnx d) 0 k).met.length:=by
  by_cases h:k<(bat (dnx d) 0 k).met.length
  ·exact h
  have:=Zbj (nx:=dnx d) (a:=0) (k:=k) (m:=d.next.length) (by omega) (by omega);rw[this] at hk;omega
 have hp:=(ZeK (nx:=dnx d) (a:=(0:Int)) (k:=k) (m:=d.next.length) (by omega)).1;rw[Zay hp hkk];have h1:=Zij (nx:=dnx d) (a:=(0:Int)) (k:=k) (n:=3) hc;have h2:=(ZaA (nx:=dnx d) (a:=(0:Int)) (m:=d.next.length) hkk (Nat.le_refl 3) hkl).1;exact h2.subset h1
theorem ZnX {d:DfaD} (hd:Zae d.next d.ends=true) {k:Nat} (hk:k<(bat (dnx d) 0 d.next.length).met.length):∃ x:Nat,(bat (dnx d) 0 d.next.length).met.getD k 0=(x:Int)∧x<d.next.length∧∀ c,c<3→((nxD d x c:Nat):Int)∈(bat (dnx d) 0 d.next.length).met:=by
 have h:=(Zbd (ZaB hd) d.next.length).1 _ (Zck hk (d:=0));refine⟨((bat (dnx d) 0 d.next.length).met.getD k 0).toNat,by omega,by omega,fun c hc => ?_⟩;have h1:=Zj6 hd hk hc;have e:(bat (dnx d) 0 d.next.length).met.getD k 0=((((bat (dnx d) 0 d.next.length).met.getD k 0).toNat:Nat):Int):=by omega
 rw[e,(Zbz (ZaB hd) (by omega) hc).2] at h1;exact h1
theorem Zj4 {l:List Int} {x:Int} (h:x∈l):Zcy l x=(Zai l x:Int):=by unfold Zcy Zai;rw[if_pos h]
theorem Zc4 {α β:Type} {f:α→β}:∀ {l:List α},(l.map f).Nodup→l.Nodup
 | [],_=>List.nodup_nil
 | x::l,h=>by rw[List.map_cons,List.nodup_cons] at h;exact List.nodup_cons.2 ⟨fun hx=>h.1 (List.mem_map.2 ⟨x,hx,rfl⟩),Zc4 h.2⟩
theorem ZeG {α β:Type} {f:α→β}:∀ {l:List α},(l.map f).Nodup→∀ {x y:α},x∈l→y∈l→f x=f y→x=y
 | [],_,x,_,hx,_,_=>by simp at hx
 | z::l,h,x,y,hx,hy,e=>by
  rw[List.map_cons,List.nodup_cons] at h;rcases List.mem_cons.1 hx with hx1|hx1
  ·rcases List.mem_cons.1 hy with hy1|hy1
   ·rw[hx1,hy1]
   exact absurd (List.mem_map.2 ⟨y,hy1,by rw[← e,hx1]⟩) h.1
  rcases List.mem_cons.1 hy with hy1|hy1
  ·exact absurd (List.mem_map.2 ⟨x,hx1,by rw[e,hy1]⟩) h.1
  exact ZeG h.2 hx1 hy1 e
/-! Closing a list of words: a word becomes a start if no start has its key. -/
section
variable {β:Type} [DecidableEq β] (key:List Nat→β)
def kvisit (s:List (List Nat)) (w:List Nat):List (List Nat):=if key w∈s.map key then s else s++[w]
def krow (s:List (List Nat)) (w:List Nat):Nat→List (List Nat)
 | 0=>s
 | n+1=>kvisit key (krow s w n) (w++[n])
def kat (s0:List (List Nat)):Nat→List (List Nat)
 | 0=>s0
 | k+1=>if k<(kat s0 k).length then krow key (kat s0 k) ((kat s0 k).getD k []) 3 else kat s0 k
def kpart (s0:List (List Nat)) (k n:Nat):List (List Nat):=krow key (kat key s0 k) ((kat key s0 k).getD k []) n
variable {key} {s0:List (List Nat)}
theorem ZdQ {k:Nat} (h:k<(kat key s0 k).length):kat key s0 (k+1)=kpart key s0 k 3:=by simp only[kat,if_pos h];rfl
theorem ZdR {k:Nat} (h:(kat key s0 k).length≤k):kat key s0 (k+1)=kat key s0 k:=by simp only[kat,if_neg (show ¬ k<(kat key s0 k).length by omega)]
theorem Zgz (k n:Nat):kpart key s0 k (n+1)=kvisit key (kpart key s0 k n) ((kat key s0 k).getD k []++[n]):=rfl
theorem Zgx (s:List (List Nat)) (w:List Nat):s <+: kvisit key s w:=by
 unfold kvisit
 split
 ·exact List.prefix_rfl
 exact List.prefix_append _ _
theorem Zm1 (s:List (List Nat)) (w:List Nat) {n m:Nat} (h:n≤m):krow key s w n <+: krow key s w m:=by
 induction m with
 | zero =>
  obtain rfl:n=0:=by omega
  exact List.prefix_rfl
 | succ m ih =>
  by_cases hn:n=m+1
  ·subst hn;exact List.prefix_rfl
  exact(ih (by omega)).trans (Zgx _ _)
theorem Zh0 {k n m:Nat} (h:n≤m):kpart key s0 k n <+: kpart key s0 k m:=Zm1 _ _ h
theorem Zg9 {k m:Nat} (h:k≤m):kat key s0 k <+: kat key s0 m:=by
 induction m with
 | zero =>
  obtain rfl:k=0:=by omega
  exact List.prefix_rfl
 | succ m ih =>
  by_cases hn:k=m+1
  ·subst hn;exact List.prefix_rfl
  refine(ih (by omega)).trans ?_;by_cases hl:m<(kat key s0 m).length
  ·rw[ZdQ hl];exact Zh0 (Nat.zero_le 3)
  rw[ZdR (by omega)];exact List.prefix_rfl
theorem Zm2 {k m:Nat} (h:(kat key s0 k).length≤k) (hm:k≤m):kat key s0 m=kat key s0 k:=by
 induction m with
 | zero =>
  obtain rfl:k=0:=by omega
  rfl
 | succ m ih =>
  by_cases hn:k=m+1
  ·subst hn;rfl
  have e:=ih (by omega);rw[ZdR (by rw[e];omega),e]
theorem Zgy (Q:List (List Nat)→Prop) (hv:∀ s w,Q s→Q (kvisit key s w)) {s:List (List Nat)} (hs:Q s) (w:List Nat):∀ n,Q (krow key s w n)
 | 0=>hs
 | n+1=>hv _ _ (Zgy Q hv hs w n)
theorem Zly (Q:List (List Nat)→Prop) (h0:Q s0) (hv:∀ s w,Q s→Q (kvisit key s w)):∀ k,Q (kat key s0 k)
 | 0=>h0
 | k+1=>by
  have ih:=Zly Q h0 hv k;by_cases h:k<(kat key s0 k).length
  ·rw[ZdQ h];exact Zgy Q hv ih _ 3
  rw[ZdR (by omega)];exact ih
theorem ZhZ {s:List (List Nat)} (w:List Nat) (h:(s.map key).Nodup):((kvisit key s w).map key).Nodup:=by
 unfold kvisit
 split
 ·exact h
 rename_i hn;rw[List.map_append];exact Zcw h hn
theorem Zlx (h:(s0.map key).Nodup) (k:Nat):((kat key s0 k).map key).Nodup:=Zly (fun s=>(s.map key).Nodup) h (fun _ w hs=>ZhZ w hs) k
theorem Zke (s:List (List Nat)) (w:List Nat):key w∈(kvisit key s w).map key:=by
 unfold kvisit
 split
 ·assumption
 simp
theorem Zlw {k n c:Nat} (hc:c<n):key ((kat key s0 k).getD k []++[c])∈(kpart key s0 k n).map key:=by
 have h1:key ((kat key s0 k).getD k []++[c])∈(kpart key s0 k (c+1)).map key:=by rw[Zgz];exact Zke _ _
 obtain⟨t,ht⟩:=Zh0 (key:=key) (s0:=s0) (k:=k) (show c+1≤n by omega);rw[← ht,List.map_append,List.mem_append];exact Or.inl h1
theorem Zkf {K:Nat} (hK:(kat key s0 K).length≤K) {i c:Nat} (hi:i<(kat key s0 K).length) (hc:c<3):key ((kat key s0 K).getD i []++[c])∈(kat key s0 K).map key:=by
 have hp:=Zg9 (key:=key) (s0:=s0) (show i≤K by omega);by_cases h:i<(kat key s0 i).length
 ·rw[Zay hp h];have h1:=Zlw (key:=key) (s0:=s0) (k:=i) hc;rw[← ZdQ h] at h1;obtain⟨t,ht⟩:=Zg9 (key:=key) (s0:=s0) (show i+1≤K by omega);rw[← ht,List.map_append,List.mem_append];exact Or.inl h1
 have:=Zm2 (key:=key) (s0:=s0) (m:=K) (show(kat key s0 i).length≤i by omega) (by omega);rw[this] at hi;omega
end
/-! The table. -/
def runD (d:DfaD) (s:Int) (w:List Nat):Int:=w.foldl (dnx d) s
def accD (d:DfaD) (w:List Nat):Bool:=den d (runD d 0 w)
def rowW (d:DfaD) (rests:List (List Nat)) (w:List Nat):List Bool:=rests.map fun r=>accD d (w++r)
theorem Zdy (d:DfaD) (s:Int) (u v:List Nat):runD d s (u++v)=runD d (runD d s u) v:=by simp[runD]
theorem Zi6 (d:DfaD) (u v:List Nat):accD d (u++v)=den d (runD d (runD d 0 u) v):=by rw[accD,Zdy]
theorem ZgV (d:DfaD) (rests:List (List Nat)) (w:List Nat):(rowW d rests w).length=rests.length:=by simp[rowW]
def isW (w:List Nat):Prop:=∀ c∈w,c<3
theorem Zdo {u v:List Nat} (hu:isW u) (hv:isW v):isW (u++v):=fun c hc=>by
 rcases List.mem_append.1 hc with h|h
 ·exact hu c h
 exact hv c h
theorem ZiU {c:Nat} (h:c<3):isW [c]:=fun x hx=>by simp at hx;omega
theorem Zha {w:List Nat} (h:isW w) (k:Nat):isW (w.take k):=fun c hc=>h c (List.mem_of_mem_take hc)
theorem Zhb {w:List Nat} (h:isW w) (k:Nat):isW (w.drop k):=fun c hc=>h c (List.mem_of_mem_drop hc)
theorem ZkP {d:DfaD} (hd:Zae d.next d.ends=true):∀ {w:List Nat},isW w→∀ {s:Int},0≤s→s<d.next.length→0≤runD d s w∧runD d s w<d.next.length
 | [],_,s,h0,h1=>⟨h0,h1⟩
 | c::w,hw,s,h0,h1=>by have hc:c<3:=hw c (by simp);have hr:=(ZaD hd (i:=s.toNat) (by omega)).2 c hc;exact ZkP hd (w:=w) (fun x hx=>hw x (by simp[hx])) (s:=dnx d s c) hr.1 hr.2
theorem ZkV {d:DfaD} (hd:Zae d.next d.ends=true) {rests l:List (List Nat)} (hl:∀ w∈l,isW w) (hn:(l.map (rowW d rests)).Nodup):l.length≤d.next.length:=by
 have h0:=(Zac hd).1
 have hm:(l.map (runD d 0)).Nodup:=by
  have e:l.map (rowW d rests)=(l.map (runD d 0)).map fun s=>rests.map fun r=>den d (runD d s r):=by rw[List.map_map];apply List.map_congr_left;intro w _;simp[rowW,Zi6]
  rw[e] at hn;exact Zc4 hn
 have h1:=Zdn (m:=ZaT d.next.length) hm fun x hx=>by obtain⟨w,hw,rfl⟩:=List.mem_map.1 hx;obtain⟨a,b⟩:=ZkP hd (hl w hw) (s:=0) (by omega) (by omega);obtain⟨n,hn⟩:=Int.eq_ofNat_of_zero_le a;rw[hn] at b ⊢;exact Zb3.2 (by omega)
 simpa [Zb0] using h1
def Zdb (d:DfaD) (starts rests:List (List Nat)):List (List Nat):=kat (rowW d rests) starts (d.next.length+1)
def Zaw (d:DfaD) (starts rests:List (List Nat)):DfaD:=⟨starts.map fun w=>(List.range 3).map fun c=>Zhm (starts.map (rowW d rests)) (rowW d rests (w++[c])),starts.map (accD d)⟩
def mixW (starts:List (List Nat)) (g:DfaD) (s:List Nat) (k:Nat):List Nat:=starts.getD (runD g 0 (s.take k)).toNat []++s.drop k
def cutW (d:DfaD) (starts:List (List Nat)) (g:DfaD) (s:List Nat):Nat:=((List.range s.length).find? fun k=>accD d (mixW starts g s k) != accD d (mixW starts g s (k+1))).getD 0
def tabW (d:DfaD) (hit:DfaD→Option (List Nat)):Nat→List (List Nat) × List (List Nat)
 | 0=>(Zdb d [[]] [[]],[[]])
 | j+1 =>
  let s:=(tabW d hit j).1
  let r:=(tabW d hit j).2
  let g:=Zaw d s r
  let w:=(hit g).getD []
  let r':=r++[w.drop (cutW d s g w+1)]
  (Zdb d s r',r')
def gssW (d:DfaD) (hit:DfaD→Option (List Nat)) (j:Nat):DfaD:=Zaw d (tabW d hit j).1 (tabW d hit j).2
structure LInv (d:DfaD) (s r:List (List Nat)):Prop where
 sw:∀ x∈s,isW x
 rw:∀ x∈r,isW x
 s0:s.head? = some []
 r0:r.head? = some []
 nd:(s.map (rowW d r)).Nodup
 cl:∀ i c,i<s.length→c<3→rowW d r (s.getD i []++[c])∈s.map (rowW d r)
theorem LInv.pos {d:DfaD} {s r:List (List Nat)} (h:LInv d s r):0<s.length:=by
 have:=h.s0;cases s with
 | nil=>simp at this
 | cons=>simp
theorem LInv.first {d:DfaD} {s r:List (List Nat)} (h:LInv d s r):s.getD 0 []=[]:=by
 have:=h.s0;cases s with
 | nil=>rfl
 | cons x l=>simpa using this
theorem LInv.le {d:DfaD} (hd:Zae d.next d.ends=true) {s r:List (List Nat)} (h:LInv d s r):s.length≤d.next.length:=ZkV hd h.sw h.nd
theorem ZgC {d:DfaD} (hd:Zae d.next d.ends=true) {s r:List (List Nat)} (hs:∀ x∈s,isW x) (hr:∀ x∈r,isW x) (h0:s.head? = some []) (hr0:r.head? = some []) (hn:(s.map (rowW d r)).Nodup):LInv d (Zdb d s r) r∧s <+: Zdb d s r:=by
 have hpre:s <+: Zdb d s r:=Zg9 (key:=rowW d r) (s0:=s) (Nat.zero_le (d.next.length+1))
 have hw:∀ K,∀ x∈kat (rowW d r) s K,isW x:=fun K=>by
  induction K with
  | zero=>exact hs
  | succ K ih =>
   by_cases h:K<(kat (rowW d r) s K).length
   ·rw[ZdQ h]
    have key:∀ n,n≤3→∀ x∈kpart (rowW d r) s K n,isW x:=by
     intro n
     induction n with
     | zero=>intro _;exact ih
     | succ n ihn =>
      intro hn3 x hx;rw[Zgz] at hx;unfold kvisit at hx
      split at hx
      ·exact ihn (by omega) x hx
      rcases List.mem_append.1 hx with hx|hx
      ·exact ihn (by omega) x hx
      simp only[List.mem_singleton] at hx;subst hx;exact Zdo (ih _ (memD h)) (ZiU (by omega))
    exact key 3 (by omega)
   rw[ZdR (by omega)];exact ih
 have hnd:=Zlx (key:=rowW d r) (s0:=s) hn (d.next.length+1);have hle:=ZkV hd (hw (d.next.length+1)) hnd;refine⟨⟨hw _,hr,?_,hr0,hnd,fun i c hi hc=>Zkf (by omega) hi hc⟩,hpre⟩;obtain⟨t,ht⟩:=hpre;rw[← ht];cases s with
 | nil=>simp at h0
 | cons x l=>simpa using h0
theorem Zhh {d:DfaD} {s r:List (List Nat)} (h:LInv d s r) {i c:Nat} (hi:i<s.length) (hc:c<3) :
  ∃ q:Nat,q<s.length∧((Zaw d s r).next.getD i []).getD c 0=(q:Int)∧rowW d r (s.getD q [])=rowW d r (s.getD i []++[c]):=by
 have hm:=h.cl i c hi hc;have hl:=ZaK hm;rw[List.length_map] at hl;refine⟨Zai (s.map (rowW d r)) (rowW d r (s.getD i []++[c])),hl,?_,?_⟩
 ·have e1:(Zaw d s r).next.getD i []=(List.range 3).map fun c=>Zhm (s.map (rowW d r)) (rowW d r (s.getD i []++[c])):=by simp[Zaw,hi]
  rw[e1];simp only[List.getD_eq_getElem?_getD,List.getElem?_map,List.getElem?_range hc,Option.map_some,Option.getD_some];unfold Zhm;rw[← List.getD_eq_getElem?_getD,if_pos hm]
 have:=Zhi hm (rowW d r []);simpa [hl] using this
theorem ZlH (d:DfaD) (s r:List (List Nat)):(Zaw d s r).next.length=s.length∧(Zaw d s r).ends.length=s.length:=by simp[Zaw]
theorem ZfL {d:DfaD} {s r:List (List Nat)} (h:LInv d s r):∀ {w:List Nat},isW w→∀ {i:Nat},i<s.length→∃ q:Nat,q<s.length∧runD (Zaw d s r) i w=(q:Int)
 | [],_,i,hi=>⟨i,hi,rfl⟩
 | c::w,hw,i,hi=>by obtain⟨q,hq,e,-⟩:=Zhh h hi (hw c (by simp));obtain⟨p,hp,e2⟩:=ZfL h (w:=w) (fun x hx=>hw x (by simp[hx])) hq;refine⟨p,hp,?_⟩;show runD (Zaw d s r) (dnx (Zaw d s r) i c) w=_;unfold dnx;rw[Int.toNat_natCast,e];exact e2
theorem ZlI {d:DfaD} {s r:List (List Nat)} {q:Nat} (hq:q<s.length):den (Zaw d s r) (q:Int)=accD d (s.getD q []):=by unfold den;simp[Zaw,hq]
theorem ZkF {f:Nat→Bool}:∀ {n:Nat},f 0≠f n→∃ k,k<n∧f k≠f (k+1)
 | 0,h=>absurd rfl h
 | n+1,h=>by
  by_cases e:f n=f (n+1)
  ·rw[← e] at h;obtain⟨k,hk,hh⟩:=ZkF h;exact⟨k,by omega,hh⟩
  exact⟨n,by omega,e⟩
theorem Zot {d:DfaD} {s r:List (List Nat)} (h:LInv d s r) {w:List Nat} (hw:isW w) (hne:accD d w≠accD (Zaw d s r) w) :
  cutW d s (Zaw d s r) w<w.length∧(accD d (mixW s (Zaw d s r) w (cutW d s (Zaw d s r) w)) != accD d (mixW s (Zaw d s r) w (cutW d s (Zaw d s r) w+1)))=true ∧
   ∀ k,k<cutW d s (Zaw d s r) w→(accD d (mixW s (Zaw d s r) w k) != accD d (mixW s (Zaw d s r) w (k+1)))=false:=by
 have f0:accD d (mixW s (Zaw d s r) w 0)=accD d w:=by unfold mixW;rw[List.take_zero,List.drop_zero];show accD d (s.getD 0 []++w)=_;rw[h.first,List.nil_append]
 have fn:accD d (mixW s (Zaw d s r) w w.length)=accD (Zaw d s r) w:=by obtain⟨q,hq,e⟩:=ZfL h hw h.pos;unfold mixW;rw[List.take_length,List.drop_length,List.append_nil];unfold accD at *;have e':runD (Zaw d s r) 0 w=(q:Int):=e;rw[e',Int.toNat_natCast,ZlI hq];rfl
 obtain⟨k,hk,hkne⟩:=ZkF (f:=fun k=>accD d (mixW s (Zaw d s r) w k)) (n:=w.length) (by rw[f0,fn];exact hne);unfold cutW;cases hf:(List.range w.length).find? fun k=>accD d (mixW s (Zaw d s r) w k) != accD d (mixW s (Zaw d s r) w (k+1)) with
 | none =>have:=List.find?_eq_none.1 hf k (List.mem_range.2 hk);simp only[bne_iff_ne,ne_eq,Decidable.not_not] at this;exact absurd this hkne
 | some c =>obtain⟨h1,n,hn,hc,h2⟩:=List.find?_eq_some_iff_getElem.1 hf;simp only[List.getElem_range,List.length_range] at hn hc h2;subst hc;simp only[Option.getD_some];refine⟨hn,h1,fun k hk => ?_⟩;have:=h2 k hk;simpa using this
theorem ZiK {d:DfaD} (hd:Zae d.next d.ends=true) {s r:List (List Nat)} (h:LInv d s r) {w:List Nat} (hw:isW w) (hne:accD d w≠accD (Zaw d s r) w) {r':List (List Nat)} (hr':r'=r++[w.drop (cutW d s (Zaw d s r) w+1)]) :
  LInv d (Zdb d s r') r'∧s <+: Zdb d s r'∧s.length<(Zdb d s r').length:=by
 obtain⟨hk,hcut,-⟩:=Zot h hw hne;obtain⟨k,hkk⟩:=eI (cutW d s (Zaw d s r) w);rw[← hkk] at hk hcut hr'
 have hrw:∀ x∈r',isW x:=fun x hx=>by
  rw[hr'] at hx;rcases List.mem_append.1 hx with hx|hx
  ·exact h.rw x hx
  simp only[List.mem_singleton] at hx;subst hx;exact Zhb hw _
 have hrow:∀ u,rowW d r' u=rowW d r u++[accD d (u++w.drop (k+1))]:=fun u=>by rw[hr'];simp[rowW]
 have hr0:r'.head? = some []:=by
  rw[hr'];have:=h.r0;cases hr:r with
  | nil=>rw[hr] at this;simp at this
  | cons x l=>rw[hr] at this;simpa using this
 have hnd:(s.map (rowW d r')).Nodup:=by
  have e:s.map (rowW d r)=(s.map (rowW d r')).map (List.take r.length):=by rw[List.map_map];apply List.map_congr_left;intro u _;simp only[Function.comp_apply];rw[hrow,List.take_left' (ZgV _ _ _)]
  have:=h.nd;rw[e] at this;exact Zc4 this
 obtain⟨hI,hp⟩:=ZgC hd h.sw hrw h.s0 hr0 hnd;refine⟨hI,hp,?_⟩;obtain⟨q,hq,e⟩:=ZfL h (Zha hw k) h.pos;have hc:w.getD k 0<3:=hw _ (memD hk);obtain⟨q',hq',e2,e3⟩:=Zhh h hq hc;have e:runD (Zaw d s r) 0 (w.take k)=(q:Int):=e;have htk:w.take (k+1)=w.take k++[w.getD k 0]:=by rw[List.take_succ_eq_append_getElem hk];simp[hk]
 have hdk:w.drop k=w.getD k 0::w.drop (k+1):=by rw[List.drop_eq_getElem_cons hk];simp[hk]
 have e':runD (Zaw d s r) 0 (w.take (k+1))=(q':Int):=by rw[htk,Zdy,e];show dnx (Zaw d s r) (q:Int) (w.getD k 0)=_;unfold dnx;rw[Int.toNat_natCast,e2]
 have m1:mixW s (Zaw d s r) w k=(s.getD q []++[w.getD k 0])++w.drop (k+1):=by unfold mixW;rw[e,Int.toNat_natCast,hdk];simp
 have m2:mixW s (Zaw d s r) w (k+1)=s.getD q' []++w.drop (k+1):=by unfold mixW;rw[e',Int.toNat_natCast]
 rw[m1,m2] at hcut
 have hnot:rowW d r' (s.getD q []++[w.getD k 0]) ∉ s.map (rowW d r'):=by
  intro hm;obtain⟨u,hu,eu⟩:=List.mem_map.1 hm;rw[hrow,hrow] at eu;obtain⟨h1,h2⟩:=List.append_inj eu (by rw[ZgV,ZgV]);have hq1:s.getD q' []∈s:=memD hq';have:u=s.getD q' []:=by exact ZeG h.nd hu hq1 (by rw[h1,e3])
  rw[this] at h2;simp only[List.cons.injEq,and_true] at h2;rw[h2] at hcut;simp at hcut
 rcases Nat.lt_or_ge s.length (Zdb d s r').length with h1|h1
 ·exact h1
 exfalso;have heq:Zdb d s r'=s:=by obtain⟨t,ht⟩:=hp;have:t=[]:=List.eq_nil_of_length_eq_zero (by have:=congrArg List.length ht;simp at this;omega);rw[← ht,this,List.append_nil]
 have hcl:=hI.cl q (w.getD k 0) (by rw[heq];exact hq) hc;rw[heq] at hcl;exact hnot hcl
theorem Zhq {next:List (List Int)} {ends:List Bool} (h1:1≤next.length) (h2:next.length≤40) (h3:ends.length=next.length) (hr:∀ i,i<next.length→(next.getD i []).length=3∧∀ c,c<3→0≤(next.getD i []).getD c 0∧(next.getD i []).getD c 0<next.length):Zae next ends=true:=by
 simp only[Zae,Bool.and_eq_true,List.all_eq_true,decide_eq_true_eq];refine⟨⟨fun x hx => ?_,?_⟩,h3⟩
 ·obtain⟨i,hi,e⟩:=List.getElem_of_mem hx;obtain⟨a,b⟩:=hr i hi;rw[Za1 hi,e] at a b;simp only[ZcW,Bool.and_eq_true,decide_eq_true_eq,List.all_eq_true];refine⟨a,fun y hy => ?_⟩;obtain⟨c,hc,e2⟩:=List.getElem_of_mem hy;have:=b c (by omega);rw[Za1 hc,e2] at this;simp[inB];omega
 simp[inB];omega
theorem Zna {d:DfaD} (hd:Zae d.next d.ends=true) {s r:List (List Nat)} (h:LInv d s r):Zae (Zaw d s r).next (Zaw d s r).ends=true:=by
 have h1:=h.pos;have h2:=h.le hd;have h3:=Zac hd;obtain⟨l1,l2⟩:=ZlH d s r;refine Zhq (by omega) (by omega) (by omega) fun i hi => ?_
 rw[l1] at hi;refine⟨by simp[Zaw,hi],fun c hc => ?_⟩;obtain⟨q,hq,e,-⟩:=Zhh h hi hc;rw[e,l1];omega
def Zor (d:DfaD) (hit:DfaD→Option (List Nat)):Prop:=∀ g,Zae g.next g.ends=true→∀ w,hit g=some w→isW w∧accD d w≠accD g w
theorem Zit {d:DfaD} (hd:Zae d.next d.ends=true) {hit:DfaD→Option (List Nat)} (hh:Zor d hit):∀ j,(∀ i,i<j→(hit (gssW d hit i)).isSome=true)→LInv d (tabW d hit j).1 (tabW d hit j).2∧j+1≤(tabW d hit j).1.length
 | 0,_=>by have h:=(ZgC hd (s:=[[]]) (r:=[[]]) (fun x hx=>by simp at hx;subst hx;intro c hc;simp at hc) (fun x hx=>by simp at hx;subst hx;intro c hc;simp at hc) rfl rfl (by simp)).1;exact⟨h,h.pos⟩
 | j+1,hy=>by
  obtain⟨h,hl⟩:=Zit hd hh j fun i hi=>hy i (by omega)
  have h1:=hy j (by omega);obtain⟨w,hw⟩:=Option.isSome_iff_exists.1 h1;obtain⟨hw1,hw2⟩:=hh _ (Zna hd h) w hw;have hm:=ZiK hd h hw1 hw2 (r':=(tabW d hit (j+1)).2) (by show(tabW d hit j).2++_=_;simp only[show hit (Zaw d (tabW d hit j).1 (tabW d hit j).2)=some w from hw,Option.getD_some]);exact⟨hm.1,by have:=hm.2.2;show _≤(Zdb d (tabW d hit j).1 (tabW d hit (j+1)).2).length;omega⟩
end Go.Proofs.YtfikabecgaappaaGreat
