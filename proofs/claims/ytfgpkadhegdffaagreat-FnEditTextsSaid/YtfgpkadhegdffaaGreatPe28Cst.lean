/-
  The walks over the program's CheckPairs and over the function behind it.
  Conditions: the arguments read as automata and as a list of pairs; for the function behind it, the automata are valid.
-/
import Derived.Test.YtfgpkadhegdffaaGreatPe26Wpl
import Derived.Test.YtfgpkadhegdffaaGreatPe27L16
set_option maxHeartbeats 1600000
namespace Go.Proofs.YtfgpkadhegdffaaGreat
open Go.RowKit Go.Maps
theorem Zo8 (w:World):(zeroValue 4).run Tryz.prog w = .ok (.bool false) w:=by kernel_rfl
end Go.Proofs.YtfgpkadhegdffaaGreat
namespace Go.Proofs.YtfgpkadhegdffaaGreat
open Go.RowKit
section
variable {α:Type} [DecidableEq α] {nx:α→Nat→α} {a:α} {en:α→Bool} {K:Nat}
theorem Zmj {F:List α} {x:α} (h:x∈F) (d:α):F.getD (Zaj F x) d=x:=by have h1:=ZaV h;rw[Zbm h1];exact List.getElem_idxOf h1
theorem Zkz (hK:(bat nx a K).met.length≤K):∀ (w:List Nat),isW w→∀ x∈(bat nx a K).met,w.foldl nx x∈(bat nx a K).met∧runD (Zas nx en (bat nx a K).met) (Zaj (bat nx a K).met x:Nat) w=(Zaj (bat nx a K).met (w.foldl nx x):Nat)
 | [],_,x,hx=>⟨hx,rfl⟩
 | c::w,hw,x,hx=>by have hc:c<3:=hw c (by simp);have hx2:=Zd9 hK hx hc;have h1:=ZaV hx;obtain⟨h2,h3⟩:=Zkz hK w (fun b hb=>hw b (by simp[hb])) (nx x c) hx2;refine⟨h2,?_⟩;unfold runD at *;rw[List.foldl_cons,List.foldl_cons,← h3,ZkZ (a:=a) (by omega) (by omega) hc];unfold ZbY;rw[Int.toNat_natCast,Zmj hx]
theorem Ze9 (hK:(bat nx a K).met.length≤K) {w:List Nat} (hw:isW w):accD (Zas nx en (bat nx a K).met) w=en (w.foldl nx a):=by
 have h0:=Zje (nx:=nx) (a:=a) K;obtain⟨h1,h2⟩:=Zkz (en:=en) hK w hw a h0;have h3:Zaj (bat nx a K).met a=0:=by have hp:=Zd0 (nx:=nx) (a:=a) K;have hf:=Zhq (nx:=nx) (a:=a) K;have hn:=(Zbu (nx:=nx) (a:=a) K).1;rw[Zbm hp] at hf;have:=List.Nodup.idxOf_getElem hn 0 hp;rw[hf] at this;exact this
 rw[h3] at h2;unfold accD;rw[show((0:Nat):Int)=0 from rfl] at h2;rw[h2,Zk1 (ZaV h1)];congr 1;exact List.getElem_idxOf _
end
theorem Zga (d:DfaD) (s:Int):runD d s []=s:=rfl
theorem ZaX (d:DfaD) (s:Int) (c:Nat) (w:List Nat):runD d s (c::w)=runD d (dnx d s c) w:=rfl
theorem Zcv {c:Nat} {w:List Nat} (h:isW (c::w)):c<3∧isW w:=⟨h c (by simp),fun b hb=>h b (by simp[hb])⟩
theorem Zoc:isW []:=fun c hc=>by simp at hc
theorem Zqq {c:Nat} {w:List Nat} (hc:c<3) (h:isW w):isW (c::w):=fun b hb=>by
 rcases List.mem_cons.1 hb with rfl|hb
 ·exact hc
 exact h b hb
theorem ZbO {d:DfaD} (hd:fine d) {s c:Nat} (hs:s<d.next.length) (hc:c<3):nxD d s c<d.next.length∧dnx d (s:Int) c=((nxD d s c:Nat):Int):=Zcf hd hs hc
theorem Zgb {d:DfaD} (hd:fine d):∀ (w:List Nat) {s:Nat},isW w→s<d.next.length→∃ t:Nat,t<d.next.length∧runD d (s:Int) w=(t:Int)
 | [],s,_,hs=>⟨s,hs,rfl⟩
 | c::w,s,hw,hs=>by obtain⟨h1,h2⟩:=Zcv hw;obtain⟨h3,h4⟩:=ZbO hd hs h1;rw[ZaX,h4];exact Zgb hd w h2 h3
theorem Zbn (d:DfaD) (s:Nat):den d (s:Int)=enD d s:=by simp[den,enD]
theorem Zqu {d:DfaD} (hd:fine d):∀ (w:List Nat) {s t:Nat},isW w→s<d.next.length→t<d.next.length→clD d s=clD d t→den d (runD d (s:Int) w)=den d (runD d (t:Int) w)
 | [],s,t,_,hs,ht,h=>by rw[Zga,Zga,Zbn,Zbn];exact Zde hs ht h
 | c::w,s,t,hw,hs,ht,h=>by obtain⟨h1,h2⟩:=Zcv hw;obtain⟨h3,h4⟩:=ZbO hd hs h1;obtain⟨h5,h6⟩:=ZbO hd ht h1;rw[ZaX,ZaX,h4,h6];exact Zqu hd w h2 h3 h5 (Zi9 (fun s c hs hc=>(ZbO hd hs hc).1) hs ht h c h1)
theorem Ziz {d:DfaD} (hd:fine d):∀ (i:Nat) {s t:Nat},s<d.next.length→t<d.next.length→(∀ w,isW w→den d (runD d (s:Int) w)=den d (runD d (t:Int) w))→clAt d.next.length (nxD d) (enD d) i s=clAt d.next.length (nxD d) (enD d) i t
 | 0,s,t,hs,ht,h=>by
  refine(Zie hs ht).2 ?_;have:=h [] Zoc
  rwa [Zga,Zga,Zbn,Zbn] at this
 | i+1,s,t,hs,ht,h=>by
  refine(ZbW hs ht).2 ((Zax _).2 ⟨Ziz hd i hs ht h,fun c hc => ?_⟩);obtain⟨h3,h4⟩:=ZbO hd hs hc;obtain⟨h5,h6⟩:=ZbO hd ht hc;refine Ziz hd i h3 h5 fun w hw => ?_
  have:=h (c::w) (Zqq hc hw)
  rwa [ZaX,ZaX,h4,h6] at this
theorem Znf {d:DfaD} (hd:fine d) {s t:Nat} (hs:s<d.next.length) (ht:t<d.next.length) (h:∀ w,isW w→den d (runD d (s:Int) w)=den d (runD d (t:Int) w)):clD d s=clD d t:=Ziz hd _ hs ht h
theorem ZdA {d:DfaD} {s:Nat} (hs:s<d.next.length):clD d s<d.next.length:=by have:=(Zbv (d:=d) s hs).1;omega
theorem Zhk {d:DfaD} (hd:fine d) {s:Nat} (hs:s<d.next.length) {w:List Nat} (hw:isW w):den d (runD d ((clD d s:Nat):Int) w)=den d (runD d (s:Int) w) :=
 Zqu hd w hw (ZdA hs) hs (Zbv s hs).2
theorem ZcB {d:DfaD} (hf:fine d) (K:Nat):(∀ x∈(bat (nxM d) ((clD d 0:Nat):Int) K).met,∃ s:Nat,x=(s:Int)∧s<d.next.length∧clD d s=s)∧(bat (nxM d) ((clD d 0:Nat):Int) K).met.length≤d.next.length:=by
 have hl:1≤d.next.length:=hf.1
 have h1:∀ x∈(bat (nxM d) ((clD d 0:Nat):Int) K).met,∃ s:Nat,x=(s:Int)∧s<d.next.length∧clD d s=s:=by
  refine Zca (Q:=fun x=>∃ s:Nat,x=(s:Int)∧s<d.next.length∧clD d s=s) ?_ (fun x c hc hx => ?_) K
  ·exact⟨clD d 0,rfl,ZdA (by omega),(Zbv 0 (by omega)).2⟩
  obtain⟨s,rfl,hs,-⟩:=hx;have h2:=(Zcf hf hs hc).1;exact⟨clD d (nxD d s c),by simp[nxM],ZdA h2,(Zbv _ h2).2⟩
 refine⟨h1,?_⟩;have h2:=ZeK (Zbu (nx:=nxM d) (a:=((clD d 0:Nat):Int)) K).1 (m:=Za5 d.next.length) (fun x hx=>by obtain⟨s,rfl,hs,-⟩:=h1 x hx;rw[ZcC];exact hs);rw[Zcz] at h2;exact h2
theorem ZnT {d:DfaD} (hd:fine d) {K:Nat} (hK:d.next.length≤K):minD d=Zas (nxM d) (den d) (bat (nxM d) ((clD d 0:Nat):Int) K).met:=by unfold minD;rw[ZbI (ZcB hd _).2 hK]
theorem Zp7 {d:DfaD} (hd:fine d):fine (minD d):=Zgn (ZcB hd _).2 hd.2.1
theorem Zhe {d:DfaD} (hd:fine d):∀ (w:List Nat) {s:Nat},isW w→s<d.next.length→∃ t:Nat,t<d.next.length∧w.foldl (nxM d) ((clD d s:Nat):Int)=((clD d t:Nat):Int)∧runD d (s:Int) w=(t:Int)
 | [],s,_,hs=>⟨s,hs,rfl,rfl⟩
 | c::w,s,hw,hs=>by
  obtain⟨h1,h2⟩:=Zcv hw;obtain⟨h3,h4⟩:=ZbO hd hs h1;obtain⟨t,ht,e1,e2⟩:=Zhe hd w h2 h3;refine⟨t,ht,?_,by rw[ZaX,h4];exact e2⟩;have e3:nxM d ((clD d s:Nat):Int) c=((clD d (nxD d s c):Nat):Int):=by unfold nxM;rw[Int.toNat_natCast];congr 1;exact Zi9 (fun s c hs hc=>(ZbO hd hs hc).1) (ZdA hs) hs (Zbv s hs).2 c h1
  rw[List.foldl_cons,e3];exact e1
theorem ZnS {d:DfaD} (hd:fine d) {w:List Nat} (hw:isW w):accD (minD d) w=accD d w:=by unfold minD;rw[Ze9 (ZcB hd _).2 hw];obtain⟨t,ht,e1,e2⟩:=Zhe hd w hw (show 0<d.next.length from hd.1);rw[e1,Zbn];unfold accD;rw[show(0:Int)=((0:Nat):Int) from rfl,e2,Zbn];exact Zde (ZdA ht) ht (Zbv t ht).2
theorem Zpg {d:DfaD} (hd:fine d) {w:List Nat} (hw:isW w):accD (Za6 d) w=accD d w:=by unfold Za6;rw[Ze9 (Zby hd _).2 hw];rfl
theorem ZnR {x y:DfaD} (hx:fine x) (hy:fine y) (h:∀ w,isW w→accD x w=accD y w):minD x=minD y:=by
 obtain⟨K,hK⟩:=eI (x.next.length+y.next.length);rw[ZnT hx (show x.next.length≤K by omega),ZnT hy (show y.next.length≤K by omega)];have lx:0<x.next.length:=hx.1;have ly:0<y.next.length:=hy.1
 let nq:Int × Int→Nat→Int × Int:=fun p c=>(nxM x p.1 c,nxM y p.2 c)
 let Q:Int × Int→Prop:=fun p=>∃ s t:Nat,p=((s:Int),(t:Int))∧s<x.next.length∧t<y.next.length∧clD x s=s∧clD y t=t∧∀ w,isW w→den x (runD x (s:Int) w)=den y (runD y (t:Int) w)
 let a:Int × Int:=(((clD x 0:Nat):Int),((clD y 0:Nat):Int))
 have h0:Q a:=⟨clD x 0,clD y 0,rfl,ZdA lx,ZdA ly,(Zbv 0 lx).2,(Zbv 0 ly).2,fun w hw=>by rw[Zhk hx lx hw,Zhk hy ly hw];exact h w hw⟩
 have hv:∀ p c,c<3→Q p→Q (nq p c):=by
  rintro p c hc ⟨s,t,rfl,hs,ht,-,-,hr⟩;obtain⟨h3,h4⟩:=ZbO hx hs hc;obtain⟨h5,h6⟩:=ZbO hy ht hc;refine⟨clD x (nxD x s c),clD y (nxD y t c),by simp[nq,nxM],ZdA h3,ZdA h5,(Zbv _ h3).2,(Zbv _ h5).2,fun w hw => ?_⟩;rw[Zhk hx h3 hw,Zhk hy h5 hw];have:=hr (c::w) (Zqq hc hw)
  rwa [ZaX,ZaX,h4,h6] at this
 have f1:∀ p q,Q p→Q q→p.1=q.1→p=q:=by
  rintro p q ⟨s,t,rfl,hs,ht,-,e1,r1⟩ ⟨s',t',rfl,hs',ht',-,e2,r2⟩ he;simp only[Int.ofNat_inj] at he;subst he;have:=Znf hy ht ht' fun w hw=>(r1 w hw).symm.trans (r2 w hw)
  rw[e1,e2] at this;rw[this]
 have f2:∀ p q,Q p→Q q→p.2=q.2→p=q:=by
  rintro p q ⟨s,t,rfl,hs,ht,e1,-,r1⟩ ⟨s',t',rfl,hs',ht',e2,-,r2⟩ he;simp only[Int.ofNat_inj] at he;subst he;have:=Znf hx hs hs' fun w hw=>(r1 w hw).trans (r2 w hw).symm
  rw[e1,e2] at this;rw[this]
 have m1:=Zdr (nx:=nq) (nx':=nxM x) (a:=a) (f:=Prod.fst) (Q:=Q) (en:=fun p=>den x p.1) (en':=den x) (K:=K) h0 hv f1 (fun _ _ _ _=>rfl) (fun _ _=>rfl);have m2:=Zdr (nx:=nq) (nx':=nxM y) (a:=a) (f:=Prod.snd) (Q:=Q) (en:=fun p=>den x p.1) (en':=den y) (K:=K) h0 hv f2 (fun _ _ _ _=>rfl) (fun p hp=>by obtain⟨s,t,rfl,-,-,-,-,r⟩:=hp;exact(r [] Zoc).symm);exact m1.trans m2.symm
theorem ZqI {d:DfaD} (hd:fine d):minD (minD d)=minD d:=ZnR (Zp7 hd) hd fun _ hw=>ZnS hd hw
theorem ZpF {d:DfaD} (hd:fine d) (ht:Za6 d=d) (hr:∀ s t:Nat,s<d.next.length→t<d.next.length→(∀ w,isW w→den d (runD d (s:Int) w)=den d (runD d (t:Int) w))→s=t):minD d=d:=by
 have hc:∀ s,s<d.next.length→clD d s=s:=fun s hs=>hr _ _ (ZdA hs) hs fun w hw=>Zhk hd hs hw
 have h0:0<d.next.length:=hd.1
 have hb:=Zhr (nx:=dnx d) (nx':=nxM d) (a:=(0:Int)) (Q:=fun x=>∃ s:Nat,x=(s:Int)∧s<d.next.length) ⟨0,rfl,h0⟩ (by
  rintro x c hc ⟨s,rfl,hs⟩;obtain⟨h3,h4⟩:=ZbO hd hs hc;exact⟨_,h4,h3⟩) (by
  rintro x c hc' ⟨s,rfl,hs⟩;obtain⟨h3,h4⟩:=ZbO hd hs hc';unfold nxM;rw[Int.toNat_natCast,hc _ h3,h4]) d.next.length
 refine Eq.trans ?_ ht;unfold minD Za6;rw[hc 0 h0,show((0:Nat):Int)=0 from rfl,← hb];unfold Zas;congr 1;refine List.map_congr_left fun x hx => ?_
 unfold Zae;refine List.map_congr_left fun c hc' => ?_
 obtain⟨h1,-⟩:=Zby hd d.next.length;obtain⟨g1,g2⟩:=h1 x hx;obtain⟨s,rfl⟩:=Int.eq_ofNat_of_zero_le g1;obtain⟨h3,h4⟩:=ZbO hd (show s<d.next.length by omega) (List.mem_range.1 hc');unfold nxM;rw[Int.toNat_natCast,hc _ h3,h4]
theorem ZfI {α:Type} [DecidableEq α] {nx:α→Nat→α} {a:α} {en:α→Bool} {K:Nat} (hK:(bat nx a K).met.length≤K) {i:Nat} (hi:i<(bat nx a K).met.length) {w:List Nat} (hw:isW w) :
  den (Zas nx en (bat nx a K).met) (runD (Zas nx en (bat nx a K).met) (i:Int) w)=en (w.foldl nx ((bat nx a K).met.getD i a)):=by
 obtain⟨h1,h2⟩:=Zkz (en:=en) hK w hw _ (memD (d:=a) hi);rw[ZeW hi (Zbu K).1] at h2;rw[h2,Zk1 (ZaV h1)];congr 1;exact List.getElem_idxOf _
theorem ZkH {d:DfaD} (hd:fine d) {s t:Nat} (hs:s<(minD d).next.length) (ht:t<(minD d).next.length) (h:∀ w,isW w→den (minD d) (runD (minD d) (s:Int) w)=den (minD d) (runD (minD d) (t:Int) w)):s=t:=by
 have hK:=(ZcB hd d.next.length).2;have hin:=(ZcB hd d.next.length).1;have hl:(minD d).next.length=(bat (nxM d) ((clD d 0:Nat):Int) d.next.length).met.length:=ZaW _ _ _;rw[hl] at hs ht;have h1:=hin _ (memD (d:=((clD d 0:Nat):Int)) hs);have h2:=hin _ (memD (d:=((clD d 0:Nat):Int)) ht);obtain⟨p,hp,hpl,hpc⟩:=h1;obtain⟨q,hq,hql,hqc⟩:=h2
 have key:p=q:=by
  rw[← hpc,← hqc];refine Znf hd hpl hql fun w hw => ?_
  have h3:=h w hw;unfold minD at h3;rw[ZfI hK hs hw,ZfI hK ht hw,hp,hq] at h3;have e:=fun (r:Nat) (hr:r<d.next.length) (hc:clD d r=r)=>Zhe hd w hw hr
  obtain⟨u,hu,u1,u2⟩:=e p hpl hpc;obtain⟨v,hv,v1,v2⟩:=e q hql hqc;rw[hpc] at u1;rw[hqc] at v1;rw[u1,v1,Zbn,Zbn] at h3;rw[u2,v2,Zbn,Zbn,← Zde (ZdA hu) hu (Zbv u hu).2,h3];exact Zde (ZdA hv) hv (Zbv v hv).2
 have e1:=ZeW hs (Zbu (nx:=nxM d) (a:=((clD d 0:Nat):Int)) d.next.length).1 ((clD d 0:Nat):Int);have e2:=ZeW ht (Zbu (nx:=nxM d) (a:=((clD d 0:Nat):Int)) d.next.length).1 ((clD d 0:Nat):Int);rw[hp] at e1;rw[hq,← key] at e2;exact e1.symm.trans e2
theorem ZpE {d:DfaD} (hd:fine d):Za6 (minD d)=minD d:=Zpe (ZcB hd _).2
def vl (w:List Nat):Nat:=w.foldl (fun n c=>3*n+c+1) 0
section
variable {α:Type} [DecidableEq α] {nx:α→Nat→α} {a:α}
structure BI (s:Bs α) (B:Nat):Prop where
 len:s.words.length=s.met.length
 inc:∀ i j,i<j→j<s.met.length→vl (s.words.getD i [])<vl (s.words.getD j [])
 bnd:∀ j,j<s.met.length→vl (s.words.getD j [])≤B
omit [DecidableEq α] in
theorem BI.up {s:Bs α} {B B':Nat} (h:BI s B) (hB:B≤B'):BI s B':=⟨h.len,h.inc,fun j hj=>Nat.le_trans (h.bnd j hj) hB⟩
end
theorem Zra {l:List Nat} {i:Nat} (hi:i<l.length) (hw:isW l) (h:i<(wdB l).size):(((wdB l)[i]'h).toNat:Int)=97+(l.getD i 0:Nat):=by
 have hc:l.getD i 0<3:=hw _ (memD hi);have e:(wdB l)[i]'h=UInt8.ofNat (97+l.getD i 0):=by show(wdB l).data[i]=_;simp[wdB,hi]
 rw[e,UInt8.toNat_ofNat'];omega
theorem Zmr (l:List Nat) (i:Nat) (hi:i<l.length) (hw:isW l) (w:World):Calls Tryz.prog 93 #[.string (wdB l),.int .i64 i] w fun e w'=>e = .returned (.int .i64 (l.getD i 0:Nat))∧w=w':=by
 have hc:l.getD i 0<3:=hw _ (memD hi);have hs:(wdB l).size=l.length:=Zlc l;have hat:=fun h=>Zra hi hw h
 obtain⟨c,hcc⟩:=eI (l.getD i 0);rw[← hcc] at hc hat;rw[← hcc];have hrun:∀ w':World,(Instr.index 9 (.string (wdB l)) (.int .i64 (i:Int))).run Tryz.prog w' = .ok (.int .u8 (97+(c:Int))) w':=fun w'=>by rw[run_index_string w' 9 (wdB l) .i64 i Tryz.underlying9,dif_pos (by omega)];congr 2;exact hat _
 have hw8:IntKind.u8.wrap (97+(c:Int)-97)=(c:Int):=by
  obtain rfl|rfl|rfl:c=0∨c=1∨c=2:=by omega
  all_goals rfl
 have hw9:IntKind.i64.wrap (c:Int)=(c:Int):=IntWalk.i64_in _ (by omega);replace hcc:=qh hcc;clear hat
 go_enter Tryz.func93, Tryz.ntmps93
 go_wp2;go_ret;exact⟨rfl,rfl⟩
theorem Znh (d:DfaD) (s:Int) {l:List Nat} {k:Nat} (hk:k<l.length):runD d s (l.take (k+1))=dnx d (runD d s (l.take k)) (l.getD k 0):=by rw[List.take_succ_eq_append_getElem hk,Zel];simp[runD,hk]
theorem Zpw (d:DfaD) (q:Nat) (l:List Nat) (v:Value) (w:World) (hd:Zag d.next d.ends=true) (hq:q<d.next.length) (hw:isW l) (hl:l.length≤1000000) (h:DfaR 0 w v d) :
  Calls Tryz.prog 104 #[v,.int .i64 q,.string (wdB l)] w fun e w'=>e = .returned (.int .i64 (runD d q l))∧Below w.heap.size w w':=by
 obtain⟨v1,v2,rfl,g1,g2⟩:=h;have hlen:=Zaf hd;have hS0:=(St.start w).alloc _ rfl #[v1,v2] 25;have hs:(wdB l).size=l.length:=Zlc l;have G1:=qh g1;replace hd:=qh hd;have Hhw:=qh hw;clear hw;replace hS0:=qh hS0;clear g1 g2
 go_enter Tryz.func104, Tryz.ntmps104
 go_wp2
 go_loopw [1,10] (fun fr i wr=>∃ k p:Nat,fr = .int .i64 p∧i = .int .i64 k∧k≤l.length∧p<d.next.length∧(p:Int)=runD d q (l.take k)∧St w wr [Ent.box w.heap.size #[v1,v2] 25]) (fun _ i _=>l.length-(intOf i).toNat)
 case atStart=>exact⟨0,q,rfl,rfl,Nat.zero_le _,hq,rfl,hS0.out⟩
 case round =>
  obtain⟨k,p,rfl,rfl,hk,hp,hrun,hS⟩:=hrel;by_cases hlt:k<l.length
  ·have hc:l.getD k 0<3:=Hhw.out _ (memD hlt);obtain⟨b1,o1,cap1,z,t,s,rfl,hc1,hc2,k1,hs1,hs2,k2,hb1,hb2⟩:=Zi4 (G1.out.below hS.bel) hd.out hp hc;have e0:=hS.cell (v:=.slice (some ⟨b1,o1,none⟩) d.next.length cap1) 0 0 rfl rfl;have hnx:=(ZaM hd.out hp).2 _ hc;have hsn:=Znh d q hlt;rw[← hrun] at hsn;obtain⟨x,hx⟩:=eI ((d.next.getD p []).getD (l.getD k 0) 0);have hdx:dnx d (p:Int) (l.getD k 0)=x:=by rw[hx];rfl
   rw[hdx] at hsn;rw[← hx] at k2 hnx;obtain⟨x0,x1⟩:=hnx;obtain⟨x,rfl⟩:=Int.eq_ofNat_of_zero_le x0;have hlet:=fun (w:World)=>Zmr l k hlt Hhw.out w
   obtain⟨c,hcc⟩:=eI (l.getD k 0);rw[← hcc] at hc k2 hlet;have hp2:(p:Int)<d.next.length:=by omega
   have hc3:(c:Int)<3:=by omega
   have hkl:(k:Int)<l.length:=by omega
   have Hlet:=qh hlet;replace hS:=qh hS;have Hhx:=qh hx;clear hx;have Hhdx:=qh hdx;clear hdx;have Hhsn:=qh hsn;clear hsn;have Hhcc:=qh hcc;clear hcc;have Hhrun:=qh hrun;clear hrun;clear hlet;go_wp2
   go_quiet (((go_at_call 93;with_reducible exact Zgd (Hlet.out _))))
   go_wp2;go_roundw
   case rel=>exact⟨k+1,x,rfl,by go_num,by omega,by omega,Hhsn.out.symm,hS.out.drewN _⟩
   case measure=>simp[intOf];omega
  obtain rfl:k=l.length:=by omega
  rw[List.take_length] at hrun;replace hS:=qh hS;have Hhrun:=qh hrun;clear hrun;go_wp2;go_ret;exact⟨Zem Hhrun.out,hS.out.bel⟩
theorem Zk8 (d:DfaD) (l:List Nat) (v:Value) (w:World) (hd:Zag d.next d.ends=true) (hw:isW l) (hl:l.length≤1000000) (h:DfaR 0 w v d) :
  Calls Tryz.prog 64 #[v,.string (wdB l)] w fun e w'=>e = .returned (.bool (accD d l))∧Below w.heap.size w w':=by
 have HD:=qh h;obtain⟨v1,v2,rfl,g1,g2⟩:=h;obtain⟨h1,h2,h3⟩:=Zaf hd;obtain⟨q,hq⟩:=Int.eq_ofNat_of_zero_le (ZiC hd hw (s:=0) (by omega) (by omega)).1;have hqn:q<d.ends.length:=by have:=(ZiC hd hw (s:=0) (by omega) (by omega)).2;omega
 have hS0:=(St.start w).alloc _ rfl #[v1,v2] 25;obtain⟨b2,o2,cap2,rfl,hc1,hc2,k2,hb2⟩:=ZdY g2 hqn;have hacc:accD d l=d.ends.getD q false:=by unfold accD den;rw[hq,Int.toNat_natCast]
 have e0:=hS0.cell (v:=v1) 0 0 rfl rfl;have e1:=hS0.cell (v:=.slice (some ⟨b2,o2,none⟩) d.ends.length cap2) 0 1 rfl rfl;have hl0:=(hS0.boxlt 0 rfl).2;have hk2:=(bcell hS0.bel b2 (o2+q) hb2).trans k2;have hb2':=Nat.lt_of_lt_of_le hb2 hS0.size;obtain⟨W,hW⟩:=eI (w.alloc (.cells #[v1,.slice (some ⟨b2,o2,none⟩) d.ends.length cap2] 25));rw[← hW] at e0 e1 hl0 hk2 hb2' hS0;have hrun:∀ w':World,Below w.heap.size w w'→Calls Tryz.prog 104 #[.agg #[v1,.slice (some ⟨b2,o2,none⟩) d.ends.length cap2],.int .i64 0,.string (wdB l)] w' fun e w2=>e = .returned (.int .i64 (runD d 0 l))∧Below w'.heap.size w' w2:=fun w' hb=>Zpw d 0 l (.agg #[v1,.slice (some ⟨b2,o2,none⟩) d.ends.length cap2]) w' hd (by omega) hw hl (HD.out.below hb)
 rw[hq] at hrun;have Hrun:=qh hrun;have Hk:=qh (fun (w':World) (h:Below W.drew.heap.size W.drew w')=>(show w'.cell? ⟨w.heap.size,0,none⟩=some v1∧w'.cell? ⟨w.heap.size,1,none⟩=some (.slice (some ⟨b2,o2,none⟩) d.ends.length cap2)∧w'.cell? ⟨b2,o2+q,none⟩=some (.bool (d.ends.getD q false)) from⟨(bcell h _ _ hl0).trans e0,(bcell h _ _ hl0).trans e1,(bcell h _ _ hb2').trans hk2⟩));obtain⟨r,hr⟩:=eI (d.ends.getD q false);rw[← hr] at hacc hk2 Hk;rw[hacc];have hqi:(q:Int)<d.ends.length:=by omega
 have HBd:=qh hS0.bel.drew;replace hS0:=qh hS0;have Hhd:=qh hd;clear hd;have Hhw:=qh hw;clear hw;have Hhq:=qh hq;clear hq;have Hhr:=qh hr;clear hr;have Hhacc:=qh hacc;clear hacc;have HW:=qh hW;clear hW g1 g2 k2 hrun h3
 go_enter Tryz.func64, Tryz.ntmps64
 go_wp2_with fail;rw[← HW.out]
 go_region_held3 (fun w'=>w'.cell? ⟨w.heap.size,0,none⟩=some v1∧w'.cell? ⟨w.heap.size,1,none⟩=some (.slice (some ⟨b2,o2,none⟩) d.ends.length cap2)∧w'.cell? ⟨b2,o2+q,none⟩=some (.bool r))
  (first|go_keep|exact Hk.out _ hq0)
  (first
   | (go_at_call 104;(with_reducible refine(Hrun.out _ HBd.out).mono ?_);rintro e u0 ⟨rfl,hq0⟩))
 go_wp2;go_ret;exact⟨rfl,HBd.out.trans (hq0.mono HBd.out.size)⟩
def Strs (B:Nat) (w:World) (v:Value) (ws:List (List Nat)):Prop:=Sl B w v ws.length 1 (wdCells ws)
theorem Strs.below {B:Nat} {w w':World} {v:Value} {ws:List (List Nat)} (h:Strs B w v ws) (he:Below w.heap.size w w'):Strs B w' v ws:=Sl.below h he
theorem Strs.form {B:Nat} {w:World} {v:Value} {ws:List (List Nat)} (h:Strs B w v ws):∃ a cap,v = .slice a ws.length cap∧ws.length≤cap∧cap≤9223372036854775807 ∧
  (0<ws.length→∃ b off,a=some ⟨b,off,none⟩∧b<w.heap.size∧∀ j,j<ws.length→w.cell? ⟨b,off+j,none⟩=some (.string (wdB (ws.getD j [])))):=by
 obtain⟨hl,a,cap,hv,h1,h2,h3⟩:=h;refine⟨a,cap,hv,h1,h2,fun hn => ?_⟩;obtain⟨b,off,ha,hb,hlt,hc⟩:=h3 hn;refine⟨b,off,ha,hlt,fun j hj => ?_⟩;rw[hc j (by omega)];simp[hj]
def okWs (ws:List (List Nat)):Prop:=∀ x∈ws,isW x∧x.length≤400000
def LOk (st:List (List Nat)):Prop:=(∀ x∈st,isW x)∧∀ i,i<st.length→(st.getD i []).length≤i
theorem LOk.visit {β:Type} [DecidableEq β] {key:List Nat→β} {s:List (List Nat)} (h:LOk s) {w:List Nat} (hw:isW w) (hl:w.length≤s.length):LOk (kvisit key s w):=by
 unfold kvisit
 split
 ·exact h
 refine⟨fun x hx => ?_,fun i hi => ?_⟩
 ·rcases List.mem_append.1 hx with hx|hx
  ·exact h.1 x hx
  simp only[List.mem_singleton] at hx;rw[hx];exact hw
 simp only[List.length_append,List.length_singleton] at hi;by_cases hin:i<s.length
 ·have:=h.2 i hin;simp only[List.getD_eq_getElem?_getD] at this ⊢;rw[List.getElem?_append_left hin];exact this
 obtain rfl:i=s.length:=by omega
 simpa using hl
theorem LOk.row {β:Type} [DecidableEq β] {key:List Nat→β} {s:List (List Nat)} (h:LOk s) {k:Nat} (hk:k<s.length):∀ n,n≤3→LOk (krow key s (s.getD k []) n)∧s.length≤(krow key s (s.getD k []) n).length
 | 0,_=>⟨h,Nat.le_refl _⟩
 | n+1,hn=>by obtain⟨h1,h2⟩:=h.row (key:=key) hk n (by omega);have h3:=(Zh6 (key:=key) (krow key s (s.getD k []) n) (s.getD k []++[n])).length_le;refine⟨h1.visit (Zfs (h.1 _ (memD hk)) (ZkU (by omega))) ?_,Nat.le_trans h2 h3⟩;have:=h.2 k hk;rw[List.length_append,List.length_singleton];omega
theorem LOk.kat {β:Type} [DecidableEq β] {key:List Nat→β} {s:List (List Nat)} (h:LOk s):∀ k,LOk (kat key s k)
 | 0=>h
 | k+1=>by
  have ih:=LOk.kat (key:=key) h k;by_cases hk:k<(Go.Proofs.YtfgpkadhegdffaaGreat.kat key s k).length
  ·rw[ZeP hk];exact(ih.row hk 3 (by omega)).1
  rw[ZeQ (by omega)];exact ih
theorem LOk.okWs {st:List (List Nat)} (h:LOk st) (hl:st.length≤1000):∀ x∈st,isW x∧x.length≤399999:=fun x hx=>by refine⟨h.1 x hx,?_⟩;obtain⟨i,hi,e⟩:=List.getElem_of_mem hx;have:=h.2 i hi;rw[Zbm hi,e] at this;omega
def hitD (d:DfaD) (g:DfaD):Option (List Nat):=hitP d g
theorem Zoh (d g:DfaD):hitD d g=hitK ZqH d g:=rfl
theorem ZpD:ZqH≤1600:=Nat.le_refl _
theorem ZjS {d g:DfaD} {w:List Nat} (h:hitD d g=some w):isW w∧accD d w≠accD g w:=by rw[Zoh] at h;exact Zp1 h
theorem Zog (d:DfaD):Zrq d (hitD d):=fun _ _ _ h=>ZjS h
theorem Zp2 {K:Nat} {a b:DfaD} {w:List Nat} (h:hitK K a b=some w):w.length≤K:=by have hg:=(Zbu (nx:=Zaz a b) (a:=((0,0):Int × Int)) K).2.1;obtain⟨i,hi,hw,-⟩:=ZeY (d:=((0,0):Int × Int)) hg h;rw[← hw];exact ZlY (nx:=Zaz a b) (a:=((0,0):Int × Int)) K _ (memD (by omega))
theorem Zp3 {d g:DfaD} {w:List Nat} (h:hitD d g=some w):w.length≤1600:=by rw[Zoh] at h;have:=Zp2 h;have:=ZpD;omega
def preW (d:DfaD):Nat→List (List Nat)
 | 0=>[[]]
 | j+1=>(tabW d (hitD d) j).1
def resW (d:DfaD) (j:Nat):List (List Nat):=(tabW d (hitD d) j).2
def staW (d:DfaD) (j:Nat):List (List Nat):=(tabW d (hitD d) j).1
def gueW (d:DfaD) (j:Nat):DfaD:=gssW d (hitD d) j
theorem Zml {α:Type} {l m:List α} (h:l <+: m) (hm:m.Nodup):l.Nodup:=by obtain⟨t,rfl⟩:=h;exact(List.nodup_append.1 hm).1
theorem Zno (d:DfaD) (j:Nat) {w:List Nat} (h:hitD d (gueW d j)=some w):resW d (j+1)=resW d j++[w.drop (cutW d (staW d j) (gueW d j) w+1)]:=by show(tabW d (hitD d) j).2++_=_;have h':hitD d (ZaB d (tabW d (hitD d) j).1 (tabW d (hitD d) j).2)=some w:=h;simp only[h',Option.getD_some];rfl
structure LTab (d:DfaD) (j:Nat):Prop where
 pre:LOk (preW d j)
 nd:((preW d j).map (rowW d (resW d j))).Nodup
 re:okWs (resW d j)
 rl:(resW d j).length≤j+1
 inv:LInv d (staW d j) (resW d j)
 st:LOk (staW d j)
theorem LTab.at {d:DfaD} (hd:Zag d.next d.ends=true):∀ j,(∀ i,i<j→(hitD d (gueW d i)).isSome=true)→LTab d j
 | 0,hy=>by
  have hinv:=(Zkm hd (Zog d) 0 hy).1
  have h0:LOk [[]]:=⟨fun x hx=>by simp at hx;subst hx;intro c hc;simp at hc,fun i hi=>by
   obtain rfl:i=0:=by simpa using hi
   simp⟩
  exact⟨h0,by simp[preW],fun x hx=>by simp[resW,tabW] at hx;subst hx;exact⟨fun c hc=>by simp at hc,by simp⟩,by simp[resW,tabW],hinv,LOk.kat h0 _⟩
 | j+1,hy=>by
  have ih:=LTab.at hd j fun i hi=>hy i (by omega)
  have hinv:=(Zkm hd (Zog d) (j+1) hy).1;obtain⟨w,hw⟩:=Option.isSome_iff_exists.1 (hy j (by omega));have hr:=Zno d j hw;have hww:=(ZjS hw).1;have hpre:preW d (j+1) <+: staW d (j+1):=ZiO (key:=rowW d (resW d (j+1))) (s0:=preW d (j+1)) (Nat.zero_le (d.next.length+1));refine⟨ih.st,?_,fun x hx => ?_,?_,hinv,LOk.kat (s:=preW d (j+1)) ih.st _⟩
  ·obtain⟨t,ht⟩:=hpre;have h1:=hinv.nd;refine Zml (m:=(staW d (j+1)).map (rowW d (resW d (j+1)))) ⟨t.map (rowW d (resW d (j+1))),?_⟩ h1;rw[← List.map_append,ht]
  ·rw[hr] at hx;rcases List.mem_append.1 hx with hx|hx
   ·exact ih.re x hx
   simp only[List.mem_singleton] at hx;subst hx;refine⟨ZlE hww _,?_⟩;have:=Zp3 hw;rw[List.length_drop];omega
  rw[hr,List.length_append,List.length_singleton];have:=ih.rl;omega
/-! The guesses in memory. -/
def Ent.sub (X y:Ent):Prop:=(∀ w,X.holds w→y.holds w)∧∀ k,y.foot k→X.foot k
def GMem (X:Ent) (vals:List (Value × Value)) (gs:List DfaD):Prop:=vals.length=gs.length∧∀ i,i<gs.length →
 ∃ a1 c1 a2 c2 vs,vals.getD i (undef,undef)=(.slice a1 (gs.getD i ⟨[],[]⟩).next.length c1,.slice a2 (gs.getD i ⟨[],[]⟩).next.length c2) ∧
  Ent.sub X (Ent.rows 67 3 (.slice a1 (gs.getD i ⟨[],[]⟩).next.length c1) vs ((gs.getD i ⟨[],[]⟩).next.map intCells))∧Ent.sub X (Ent.row 4 1 (.slice a2 (gs.getD i ⟨[],[]⟩).next.length c2) (gs.getD i ⟨[],[]⟩).next.length (boolCells (gs.getD i ⟨[],[]⟩).ends))
theorem GMem.nil (X:Ent):GMem X [] []:=⟨rfl,fun i hi=>absurd hi (by simp)⟩
theorem Tryz.infoDfa:(Tryz.prog.info? 25).map (fun i=>(i.zero,i.size,i.bytes))=some (some (.agg #[.slice none 0 0,.slice none 0 0]),2,48):=by kernel_rfl
theorem GMem.own {w0 w:World} {L:List Ent} (h:St w0 w L) (i:Nat) {X:Ent} (hx:L[i]? = some X) {vals:List (Value × Value)} {gs:List DfaD} (hG:GMem X vals gs) {k:Nat} (hk:k<gs.length) :
  ∃ a1 c1 a2 c2,vals.getD k (undef,undef)=(.slice a1 (gs.getD k ⟨[],[]⟩).next.length c1,.slice a2 (gs.getD k ⟨[],[]⟩).next.length c2)∧(gs.getD k ⟨[],[]⟩).ends.length=(gs.getD k ⟨[],[]⟩).next.length ∧
   DfaO 67 3 4 w0.heap.size w.heap.size w (.agg #[.slice a1 (gs.getD k ⟨[],[]⟩).next.length c1,.slice a2 (gs.getD k ⟨[],[]⟩).next.length c2]) (gs.getD k ⟨[],[]⟩):=by
 obtain⟨a1,c1,a2,c2,vs,e,s1,s2⟩:=hG.2 k hk;have hil:i<L.length:=(List.getElem?_eq_some_iff.1 hx).1;have h1:=h.same i hx _ (s1.1 w) s1.2;have h2:=h.same i hx _ (s2.1 w) s2.2;have g1:=h1.intSS i (by rw[List.getElem?_set,if_pos rfl,if_pos hil]);have g2:=h2.row i (by rw[List.getElem?_set,if_pos rfl,if_pos hil]);have hl:(gs.getD k ⟨[],[]⟩).ends.length=(gs.getD k ⟨[],[]⟩).next.length:=by have:=g2.1;simp at this;simpa using this
 refine⟨a1,c1,a2,c2,e,hl,_,_,rfl,g1,?_⟩;unfold OBools;rw[hl];exact Zab g2
def xb (b x:Bool):Bool:=b != x
def flB (b:Bool) (g:DfaD):DfaD:=⟨g.next,g.ends.map (xb b)⟩
theorem ZkW (b:Bool) (g:DfaD) (s:Int) (w:List Nat):runD (flB b g) s w=runD g s w:=rfl
theorem Zqs {b:Bool} {g:DfaD} (h:Zag g.next g.ends=true):Zag (flB b g).next (flB b g).ends=true:=by
 have hl:=Zaf h;refine Zi5 hl.1 hl.2.1 ?_ fun i hi=>ZaM h hi
 show(g.ends.map (xb b)).length=g.next.length;rw[List.length_map];exact hl.2.2
theorem ZqV {b:Bool} {g:DfaD} (h:Zag g.next g.ends=true) {w:List Nat} (hw:isW w):accD (flB b g) w=xb b (accD g w):=by have hl:=Zaf h;obtain⟨t,ht,hr⟩:=Zgb (ZaL h) w (s:=0) hw (by omega);have hr:runD g 0 w=(t:Int):=hr;unfold accD;rw[ZkW,hr,Zbn,Zbn];show(g.ends.map (xb b)).getD t false=xb b (g.ends.getD t false);rw[List.getD_eq_getElem?_getD,List.getElem?_map,List.getD_eq_getElem?_getD,List.getElem?_eq_getElem (show t<g.ends.length by omega)];rfl
section
variable {key key':List Nat→List Bool} {f:List Bool→List Bool}
end
section
variable {b:Bool} {d M:DfaD}
end
def ZjK (p:Int × Int):DfaD:=if p.1=1 then ZeJ else if p.1=2 then oneD else minD ⟨[[2,2,2].set p.2.toNat 1,[2,2,2],[2,2,2]],[false,true,false]⟩
def oneQ (K:Nat) (k:Int) (a:DfaD):Option DfaD:=if k=8 then(Zf4 81 K (ZcO (ZaE a))).map minD else some (flB true a)
def twoQ (K:Nat) (k:Int) (a b:DfaD):Option DfaD :=
 if k=4 then(Zf4 81 K (ZdQ (ZaE a) (ZaE b))).map minD else if k=5 then(ZbJ K (fun p q=>p||q) a b).map minD else(ZbJ K (fun p q=>p&&q) a b).map minD
def ZfV (K:Nat) (p:Int × Int) (st:List DfaD):Option (List DfaD) :=
 if Zad p=0 then some (ZjK p::st)
 else if Zad p=1 then
  match st with
  | a::r=>(oneQ K p.1 a).map (·::r)
  | []=>none
 else
  match st with
  | b::a::r=>(twoQ K p.1 a b).map (·::r)
  | _=>none
def runC (K:Nat):List (Int × Int)→List DfaD→Option (List DfaD)
 | [],st=>some st
 | p::ps,st=>(ZfV K p st).bind (runC K ps)
theorem Zpf {d:DfaD} (hd:fine d):Za6 (flB true d)=flB true (Za6 d):=by
 have hm:=(Zby hd d.next.length).1;unfold Za6 Zas flB;show DfaD.mk _ _=DfaD.mk _ _;congr 1;rw[List.map_map];refine List.map_congr_left fun x hx => ?_
 obtain⟨h1,h2⟩:=hm x hx;have h3:=hd.2.2.1;have hlt:x.toNat<d.ends.length:=by omega
 simp[den,hlt]
theorem ZqJ {d:DfaD} (hd:Zag d.next d.ends=true) (hm:minD d=d):minD (flB true d)=flB true d:=by
 have hf:=ZaL hd;have hF:=ZaL (Zqs (b:=true) hd);have ht:Za6 d=d:=by have:=ZpE hf;rw[hm] at this;exact this
 refine ZpF hF (by rw[Zpf hf,ht]) fun s t hs ht' h => ?_
 have hs:s<d.next.length:=hs;have ht':t<d.next.length:=ht';refine ZkH hf (by rw[hm];exact hs) (by rw[hm];exact ht') fun w hw => ?_
 rw[hm];obtain⟨a,ha,hra⟩:=Zgb hf w hw hs;obtain⟨b,hb,hrb⟩:=Zgb hf w hw ht';have h1:=h w hw;rw[ZkW,ZkW,hra,hrb,Zbn,Zbn] at h1;rw[hra,hrb,Zbn,Zbn]
 have e:∀ i,i<d.next.length→enD (flB true d) i = !enD d i:=fun i hi=>by
  have h3:=(Zaf hd).2.2;have hi2:i<d.ends.length:=by omega
  simp[enD,flB,hi2,xb]
 rw[e a ha,e b hb] at h1;simpa using h1
theorem Zi7 {K:Nat} (hK:K=40) (t:Ex) {d:DfaD} (h:Zap K t=some d):minD d=d:=by
 have key:∀ {y:DfaD},Zag y.next y.ends=true→Zal y=d→minD d=d:=fun {y} hy e=>by rw[← e,ZcI (ZaL hy)];exact ZqI (ZaL hy)
 cases t with
 | zero=>simp only[Zap,Option.some.injEq] at h;exact key ZeI h
 | one=>simp only[Zap,Option.some.injEq] at h;exact key ZgR h
 | ltr c=>simp only[Zap,Option.some.injEq] at h;exact key (Zep c) h
 | join a b =>simp only[Zap,Option.bind_eq_some_iff,Option.map_eq_some_iff] at h;obtain⟨x,-,y,-,z,hz,e⟩:=h;exact key (Zc3 hK hz) e
 | alt a b =>simp only[Zap,Option.bind_eq_some_iff,Option.map_eq_some_iff] at h;obtain⟨x,-,y,-,z,hz,e⟩:=h;exact key (ZbB hK hz) e
 | both a b =>simp only[Zap,Option.bind_eq_some_iff,Option.map_eq_some_iff] at h;obtain⟨x,-,y,-,z,hz,e⟩:=h;exact key (ZbB hK hz) e
 | neg a =>simp only[Zap,Option.map_eq_some_iff] at h;obtain⟨x,hx,e⟩:=h;exact key (ZgU (ZbF hK a hx)) e
 | star a =>simp only[Zap,Option.bind_eq_some_iff,Option.map_eq_some_iff] at h;obtain⟨x,-,z,hz,e⟩:=h;exact key (Zc3 hK hz) e
theorem ZeO {o:Option DfaD} (h:∀ d,o=some d→Zag d.next d.ends=true):o.map Zal=o.map minD:=by
 cases o with
 | none=>rfl
 | some d=>exact congrArg some (ZcI (ZaL (h d rfl)))
theorem ZnK (d:DfaD):negD d=flB true d:=by unfold negD flB;congr 1;exact List.map_congr_left fun x _=>by cases x<;>rfl
theorem Zn2:Zal ZeJ=ZeJ:=by decide +kernel
theorem ZpO:Zal oneD=oneD:=by decide +kernel
theorem Zni {K:Nat} (hK:K=40):∀ (t:Ex) (rest:List (Int × Int)) (st:List DfaD),runC K (t.post++rest) st=(Zap K t).bind fun d=>runC K rest (d::st):=by
 intro t
 induction t with
 | zero =>intro rest st;show(some (ZeJ::st)).bind (runC K rest)=_;simp only[Zap,Zn2];rfl
 | one =>intro rest st;show(some (oneD::st)).bind (runC K rest)=_;simp only[Zap,ZpO];rfl
 | ltr c =>
  intro rest st;have e:ZfV K (3,(c.val:Int)) st=some (ZjK (3,(c.val:Int))::st):=by unfold ZfV;rw[if_pos (ZeD c)]
  show(ZfV K (3,(c.val:Int)) st).bind (runC K rest)=_;rw[e];simp only[Zap];rw[ZcI (ZaL (Zep c))];rfl
 | join a b ha hb =>
  intro rest st;show runC K ((a.post++b.post++[(4,0)])++rest) st=_;rw[List.append_assoc,List.append_assoc,ha];simp only[Zap];cases hx:Zap K a with
  | none=>rfl
  | some x =>
   show runC K (b.post++([(4,0)]++rest)) (x::st)=_;rw[hb];show _=((Zap K b).bind fun y=>(detM 81 K (Zdi x y)).map Zal).bind _;cases hy:Zap K b with
   | none=>rfl
   | some y =>show((twoQ K 4 x y).map (·::st)).bind (runC K rest)=((detM 81 K (Zdi x y)).map Zal).bind _;rw[show twoQ K 4 x y=(detM 81 K (Zdi x y)).map Zal by rw[ZeO fun d hd=>Zc3 hK hd,← ZlM,← Zg6];rfl];cases (detM 81 K (Zdi x y)).map Zal<;>rfl
 | alt a b ha hb =>
  intro rest st;show runC K ((a.post++b.post++[(5,0)])++rest) st=_;rw[List.append_assoc,List.append_assoc,ha];simp only[Zap];cases hx:Zap K a with
  | none=>rfl
  | some x =>
   show runC K (b.post++([(5,0)]++rest)) (x::st)=_;rw[hb];show _=((Zap K b).bind fun y=>(ZbJ K (fun p q=>p||q) x y).map Zal).bind _;cases hy:Zap K b with
   | none=>rfl
   | some y =>show((twoQ K 5 x y).map (·::st)).bind (runC K rest)=((ZbJ K (fun p q=>p||q) x y).map Zal).bind _;rw[show twoQ K 5 x y=(ZbJ K (fun p q=>p||q) x y).map Zal by rw[ZeO fun d hd=>ZbB hK hd];rfl];cases (ZbJ K (fun p q=>p||q) x y).map Zal<;>rfl
 | both a b ha hb =>
  intro rest st;show runC K ((a.post++b.post++[(6,0)])++rest) st=_;rw[List.append_assoc,List.append_assoc,ha];simp only[Zap];cases hx:Zap K a with
  | none=>rfl
  | some x =>
   show runC K (b.post++([(6,0)]++rest)) (x::st)=_;rw[hb];show _=((Zap K b).bind fun y=>(ZbJ K (fun p q=>p&&q) x y).map Zal).bind _;cases hy:Zap K b with
   | none=>rfl
   | some y =>show((twoQ K 6 x y).map (·::st)).bind (runC K rest)=((ZbJ K (fun p q=>p&&q) x y).map Zal).bind _;rw[show twoQ K 6 x y=(ZbJ K (fun p q=>p&&q) x y).map Zal by rw[ZeO fun d hd=>ZbB hK hd];rfl];cases (ZbJ K (fun p q=>p&&q) x y).map Zal<;>rfl
 | neg a ha =>
  intro rest st;show runC K ((a.post++[(7,0)])++rest) st=_;rw[List.append_assoc,ha];simp only[Zap];cases hx:Zap K a with
  | none=>rfl
  | some x =>have hok:=ZbF hK a hx;show runC K rest (flB true x::st)=runC K rest (Zal (negD x)::st);rw[ZcI (ZaL (ZgU hok)),ZnK,ZqJ hok (Zi7 hK a hx)]
 | star a ha =>
  intro rest st;show runC K ((a.post++[(8,0)])++rest) st=_;rw[List.append_assoc,ha];simp only[Zap];cases hx:Zap K a with
  | none=>rfl
  | some x =>show((oneQ K 8 x).map (·::st)).bind (runC K rest)=((detM 81 K (ZdD x)).map Zal).bind _;rw[show oneQ K 8 x=(detM 81 K (ZdD x)).map Zal by rw[ZeO fun d hd=>Zc3 hK hd,← ZlM,← Zgz];rfl];cases (detM 81 K (ZdD x)).map Zal<;>rfl
theorem Zma {K:Nat} (hK:K=40) (t:Ex):runC K t.post []=(Zap K t).map fun d=>[d]:=by have h:=Zni hK t [] [];rw[List.append_nil] at h;rw[h];cases Zap K t<;>rfl
theorem ZpP {p:Int × Int} (h:pOk p=true) (hn:Zad p=0):Zag (ZjK p).next (ZjK p).ends=true:=by
 unfold ZjK
 split
 ·exact ZeI
 split
 ·exact ZgR
 rename_i h1 h2
 have h3:p.1=3∧0≤p.2∧p.2≤2:=by
  unfold Zad at hn;rw[if_pos h] at hn;simp only[pOk,inB,Bool.and_eq_true,Bool.or_eq_true,decide_eq_true_eq,Bool.not_eq_true',decide_eq_false_iff_not] at h
  split at hn
  ·omega
  split at hn<;>omega
 obtain⟨c,hc⟩:∃ c:Fin 3,p.2.toNat=c.val:=⟨⟨p.2.toNat,by omega⟩,rfl⟩;rw[hc];have:=Zcb (Zep c);rw[ZcI (ZaL (Zep c))] at this;exact this
theorem ZnQ {d:DfaD} (h:Zag d.next d.ends=true):Zag (minD d).next (minD d).ends=true:=by rw[← ZcI (ZaL h)];exact Zcb h
end Go.Proofs.YtfgpkadhegdffaaGreat
