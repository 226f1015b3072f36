/-
  The walk over the program's small, for automata of up to N <= 128 states.
  Conditions: the automaton's numbers are in bounds; the arguments read as such data.
-/
import Derived.Test.YtfikabecgaappaaPw13Wdet
set_option maxHeartbeats 4000000
set_option maxRecDepth 100000
namespace Go.Proofs.Ytfikabecgaappaa
open Go.RowKit
structure DetOkW (N:Nat) (n:NfaD):Prop where
 mv:mvIn N n.moves
 ml:n.moves.length≤1000
 f:inN N n.firsts
 fl:n.firsts.length≤1000
 e:inN N n.ends
 el:n.ends.length≤1000
def ZdQ (N K:Nat) (n:NfaD):Option DfaD:=if (metW N n K).length≤K then some (Zak (nxW N n) (enW n) (metW N n K)) else none
theorem Zf6 {N K:Nat} (hK:K=40) {n:NfaD} {d:DfaD} (h:ZdQ N K n=some d):Zae d.next d.ends=true:=by
 unfold ZdQ at h
 split at h
 ·rename_i hle;simp only[Option.some.injEq] at h;subst h;obtain⟨h1,h2,h3,h4⟩:=Zc6 (en:=enW n) (nx:=nxW N n) (a:=pW (fstW N n)) hle (by omega);exact Zdj ⟨h1,h2,h3,h4⟩ (by rw[Zay];omega)
 cases h
theorem ZiI {N K:Nat} {n:NfaD} (h:(metW N n K).length≤K):ZdQ N K n=some (Zak (nxW N n) (enW n) (metW N n K)):=if_pos h
theorem ZiJ {N K:Nat} {n:NfaD} (h:¬ (metW N n K).length≤K):ZdQ N K n=none:=if_neg h
theorem ZcE (N:Nat) (hN:N≤128) (n:NfaD) (K:Nat) (hK:K=40) (D:DfaD) (fb:Bool) (hD:((ZdQ N K n).map minD).getD zeD=D) (hfb:((ZdQ N K n).map minD).isSome=fb) (v1 v2 v3:Value) (w:World) (hdo:DetOkW N n) (h1:Moves 0 w v1 n.moves) (h2:Ints 0 w v2 n.firsts) (h3:Ints 0 w v3 n.ends) :
  Calls Try.prog 51 #[.agg #[.int .i64 n.states,v1,v2,v3]] w fun e w'=>RTt D fb w.heap.size e w'∧Below w.heap.size w w':=by
 have hS0:=((St.start w).alloc _ rfl #[.int .i64 n.states,v1,v2,v3] 78).alloc (w.heap.size+1) (by simp) #[.slice none 0 0,.slice none 0 0] 30;have hdet:=fun (W:World) (hb:Below w.heap.size w W)=>ZdP N hN n K hK v1 v2 v3 W hdo.mv (by have:=hdo.ml;omega) hdo.f (by have:=hdo.fl;omega) hdo.e (h1.below hb) (h2.below hb) (h3.below hb)
 have Hdet:=qh hdet;replace hS0:=qh hS0;have HhD:=qh hD;clear hD;have Hhfb:=qh hfb;clear hfb;clear hdet h1 h2 h3 hdo
 go_enter Try.func51, Try.ntmps51
 have e0:=hS0.out.cell (v:=.int .i64 n.states) 0 0 rfl rfl;have e1:=hS0.out.cell (v:=v1) 0 1 rfl rfl;have e2:=hS0.out.cell (v:=v2) 0 2 rfl rfl;have e3:=hS0.out.cell (v:=v3) 0 3 rfl rfl;go_wp2_with fail;refine(Hdet.out _ hS0.out.bel).mono ?_;rintro e w3 ⟨hr,hb3⟩;unfold Zk8 at hr;by_cases hle:(metW N n K).length≤K
 ·rw[if_pos hle] at hr;obtain⟨an,cn,ae,ce,rfl,hown⟩:=hr;have htd:=ZiI hle;obtain⟨X,hX⟩:=eI (Zak (nxW N n) (enW n) (metW N n K));have hl1:X.next.length=(metW N n K).length:=by rw[hX];exact Zay _ _ _
  have hl2:X.ends.length=(metW N n K).length:=by rw[hX];simp[Zak]
  rw[← hX] at hown htd;have hD:=HhD.out;have hfb:=Hhfb.out;rw[htd] at hD hfb;have hD:minD X=D:=hD;have hfb:true=fb:=hfb;subst hD;subst hfb;obtain⟨L,hL⟩:=eI ((metW N n K).length);rw[← hL] at hown hl1 hl2 hle;rw[← hL];have hL40:(L:Int)≤40:=by omega
  have hXo:Zae X.next X.ends=true:=Zf6 hK htd;have hS4:=(hS0.out.call hb3).alloc _ rfl #[.slice an L cn,.slice ae L ce] 30;have hDR:DfaR 0 (w3.alloc (.cells #[.slice an L cn,.slice ae L ce] 30)) (.agg #[.slice an L cn,.slice ae L ce]) X:=(hown.r.mono (Nat.zero_le _)).below ((Below.refl _ _).alloc (Nat.le_refl _) _);have d0:=hS4.cell (v:=.slice an L cn) 2 0 rfl rfl;have d1:=hS4.cell (v:=.slice ae L ce) 2 1 rfl rfl;have HS4:=qh hS4;have HDR:=qh hDR;have Hhl1:=qh hl1;clear hl1;have Hhl2:=qh hl2;clear hl2;have Hhtd:=qh htd;clear htd;have HhXo:=qh hXo;clear hXo;have HhX:=qh hX;clear hX;replace hL:=qh hL;clear hown hb3 hle hS4 hDR e0 e1 e2 e3;go_wp2_with fail;refine(Za0 X _ _ HhXo.out HDR.out).mono ?_;rintro e w5 ⟨a1,c1,a2,c2,rfl,hown,hb5⟩;obtain⟨M,hM⟩:=eI (minD X);rw[← hM] at hown;rw[← hM];have hS5:=HS4.out.call hb5;have f0:=hS5.fr 1 0 rfl;have f1:=hS5.fr 1 1 rfl;have k0:=hS5.cell (v:=.slice none 0 0) 1 0 rfl rfl;have k1:=hS5.cell (v:=.slice none 0 0) 1 1 rfl rfl;have hDM:=DMem.of hown HS4.out.size;have hb0:=hS5.box 1 rfl;have HS5:=qh hS5;have HDM:=qh hDM;have Hhb0:=qh hb0;clear hb0;have HhM:=qh hM;clear hM;clear hS5 hown hb5 hDM d0 d1;go_wp2;have hq:=(HS5.out.set 1 rfl 0 (.slice a1 M.next.length c1)).set 1 rfl 1 (.slice a2 M.ends.length c2);have q0:=hq.cell (v:=.slice a1 M.next.length c1) 1 0 rfl rfl;have q1:=hq.cell (v:=.slice a2 M.ends.length c2) 1 1 rfl rfl
  have hm:=(HDM.out.set Hhb0.out 0 (.slice a1 M.next.length c1)).set (Hhb0.out.set 0 _) 1 (.slice a2 M.ends.length c2);refine bodyPost_ret (v:=.tuple #[.agg #[.slice a1 M.next.length c1,.slice a2 M.ends.length c2],.bool true]) (by simp[results,Try.results51,go_sem,q0,q1]) rfl ⟨?_,hq.bel⟩;rw[← HhM.out];exact⟨a1,c1,a2,c2,rfl,_,_,rfl,hm.1,hm.2⟩
 rw[if_neg hle] at hr;subst hr;have hD:=HhD.out;have hfb:=Hhfb.out;rw[ZiJ hle] at hD hfb;have hD:zeD=D:=hD;have hfb:false=fb:=hfb;subst hD;subst hfb;have hS4:=(hS0.out.call hb3).alloc _ rfl #[.slice none 0 0,.slice none 0 0] 30;have f0:=hS4.fr 1 0 rfl;have f1:=hS4.fr 1 1 rfl;have k0:=hS4.cell (v:=.slice none 0 0) 1 0 rfl rfl;have k1:=hS4.cell (v:=.slice none 0 0) 1 1 rfl rfl;have HS4:=qh hS4;clear hb3 hle hS4 e0 e1 e2 e3;go_wp2;have hq:=(HS4.out.set 1 rfl 0 (.slice none 0 0)).set 1 rfl 1 (.slice none 0 0);have q0:=hq.cell (v:=.slice none 0 0) 1 0 rfl rfl;have q1:=hq.cell (v:=.slice none 0 0) 1 1 rfl rfl;refine bodyPost_ret (v:=.tuple #[.agg #[.slice none 0 0,.slice none 0 0],.bool false]) (by simp[results,Try.results51,go_sem,q0,q1]) rfl ⟨?_,hq.bel⟩;exact⟨none,0,none,0,rfl,Zfq _ _ _ _ _⟩
theorem Zew (a b:DfaD):Zcm (ZaJ a) (ZaJ b)=ZcI a b:=by
 unfold Zcm ZcI shN ZaJ;simp only[List.map_cons,List.map_nil];congr 1
 ·show(b.next.length:Int)+(a.next.length:Int)=_;omega
 congr 1
 generalize eds a a.next.length=l
 induction l with
 | nil=>rfl
 | cons x l ih =>rw[List.flatMap_cons,List.map_cons,ih];simp
theorem Zea (a:DfaD):ZbH (ZaJ a)=Zde a:=by unfold ZbH Zde ZaJ;simp
theorem Zlb {u v:Nat} (h:pW u=pW v):u=v:=by rw[← ZkA u,h,ZkA]
def nxV (N:Nat) (n:NfaD) (v c:Nat):Nat:=stV N n.moves v (c:Int)
theorem ZlZ (N K:Nat) (n:NfaD):metW N n K=(bat (nxV N n) (fstW N n) K).met.map pW:=by have h:=Zhz (nx:=nxV N n) (nx':=nxW N n) (f:=pW) (a:=fstW N n) (fun x y h=>Zlb h) (fun x c=>(Zjm N n x c).symm) K;show(bat (nxW N n) (pW (fstW N n)) K).met=_;rw[h]
def gS (v:Nat):Int × Int:=((v:Int),0)
theorem Zle {u v:Nat} (h:gS u=gS v):u=v:=Int.ofNat.inj (congrArg Prod.fst h)
theorem ZlY (N K:Nat) (n:NfaD):metSM N n K=(bat (nxV N n) (fstW N n) K).met.map gS:=by have h:=Zhz (nx:=nxV N n) (nx':=nxSM N n) (f:=gS) (a:=fstW N n) (fun x y h=>Zle h) (fun x c=>rfl) K;show(bat (nxSM N n) (gS (fstW N n)) K).met=_;rw[h]
theorem Zjo {α β:Type} [DecidableEq α] [DecidableEq β] {f:α→β} (hf:∀ x y,f x=f y→x=y) {nx:α→Nat→α} {nx':β→Nat→β} {en:α→Bool} {en':β→Bool} (hn:∀ x c,nx' (f x) c=f (nx x c)) (he:∀ x,en' (f x)=en x) (L:List α):Zak nx' en' (L.map f)=Zak nx en L:=by
 unfold Zak;rw[List.map_map,List.map_map];congr 1
 ·refine List.map_congr_left fun x _ => ?_
  show Zad nx' (L.map f) (f x)=Zad nx L x;unfold Zad;refine List.map_congr_left fun c _ => ?_
  show((Zaf (L.map f) (nx' (f x) c):Nat):Int)=_;rw[hn,Zei fun y _ e=>hf _ _ e]
 exact List.map_congr_left fun x _=>he x
theorem Zh6 (N K:Nat) (n:NfaD):ZdQ N K n=detM N K n:=by
 unfold ZdQ detM;rw[ZlZ N K n,ZlY N K n];simp only[List.length_map]
 rw[Zjo (f:=pW) (nx:=nxV N n) (nx':=nxW N n) (en:=fun v=>endV n v) (en':=enW n) (fun x y h=>Zlb h) (fun x c=>Zjm N n x c) (fun x=>Zlg n x),
  Zjo (f:=gS) (nx:=nxV N n) (nx':=nxSM N n) (en:=fun v=>endV n v) (en':=enS n) (fun x y h=>Zle h) (fun x c=>rfl) (fun x=>rfl)]
end Go.Proofs.Ytfikabecgaappaa
namespace Go.Proofs.Ytfikabecgaappaa
open Go.RowKit Go.Maps
def Zci (p:Int × Int):List Int:=[p.1,p.2]
structure L16W (lo hi:Nat) (w:World) (s:Bs (Int × Int)) (vl vw:Value):Prop where
 li:OIntSS 52 3 lo hi w vl (s.met.map Zci)
 wo:w.ownsRow lo 9 1 vw s.words.length (wdCells s.words)
theorem L16W.below {lo hi:Nat} {w w':World} {s:Bs (Int × Int)} {vl vw:Value} (h:L16W lo hi w s vl vw) (hb:Below w.heap.size w w'):L16W lo hi w' s vl vw :=
 ⟨h.li.below hb,(Own.below (Zaa h.wo) hb).1⟩
theorem L16W.up {lo hi hi':Nat} {w:World} {s:Bs (Int × Int)} {vl vw:Value} (h:L16W lo hi w s vl vw) (hh:hi≤hi'):L16W lo hi' w s vl vw:=⟨h.li.mono (Nat.le_refl _) hh,h.wo⟩
theorem L16W.row {lo hi:Nat} {w:World} {s:Bs (Int × Int)} {vl vw:Value} (h:L16W lo hi w s vl vw) (h0:0<s.met.length):∃ g off cap,vl = .slice (some ⟨g,off,none⟩) s.met.length cap∧s.met.length≤cap∧cap≤9223372036854775807∧g<w.heap.size ∧
  ∀ k,k<s.met.length→∃ rb ro rc,w.cell? ⟨g,off+k,none⟩=some (.slice (some ⟨rb,ro,none⟩) 2 rc)∧2≤rc∧rc≤9223372036854775807∧rb<w.heap.size∧w.cell? ⟨rb,ro,none⟩=some (.int .i64 (s.met.getD k (0,0)).1)∧w.cell? ⟨rb,ro+1,none⟩=some (.int .i64 (s.met.getD k (0,0)).2):=by
 obtain⟨a,cap,hv,h1,h2,h3⟩:=h.li.intSS.form;rw[List.length_map] at hv h1 h3;obtain⟨g,off,rfl,-,hg,hc⟩:=h3 h0;refine⟨g,off,cap,hv,h1,h2,hg,fun k hk => ?_⟩;obtain⟨a',cap',hc1,hl,hm,hr⟩:=hc k hk;have e:(s.met.map Zci).getD k []=Zci (s.met.getD k (0,0)):=by simp[hk]
 rw[e] at hc1 hl hr;obtain⟨b',off',rfl,-,hb',hcc⟩:=hr (by simp[Zci]);exact⟨b',off',cap',hc1,hl,hm,hb',by simpa [Zci] using hcc 0 (by simp[Zci]),by simpa [Zci] using hcc 1 (by simp[Zci])⟩
theorem Zki (w:World):(zeroValue 4).run Try.prog w = .ok (.bool false) w:=by kernel_rfl
end Go.Proofs.Ytfikabecgaappaa
namespace Go.Proofs.Ytfikabecgaappaa
open Go.RowKit
theorem Zcw (d:DfaD) (s:Int):runD d s []=s:=rfl
theorem ZaB (d:DfaD) (s:Int) (c:Nat) (w:List Nat):runD d s (c::w)=runD d (dnx d s c) w:=rfl
theorem ZhM (d:DfaD) (s:Int) (u w:List Nat):runD d s (u++w)=runD d (runD d s u) w:=by simp[runD]
theorem Zbt {c:Nat} {w:List Nat} (h:isW (c::w)):c<3∧isW w:=⟨h c (by simp),fun b hb=>h b (by simp[hb])⟩
theorem Zho:isW []:=fun c hc=>by simp at hc
theorem Zld {c:Nat} {w:List Nat} (hc:c<3) (h:isW w):isW (c::w):=fun b hb=>by
 rcases List.mem_cons.1 hb with rfl|hb
 ·exact hc
 exact h b hb
theorem Za1 {d:DfaD} (hd:fine d) {s c:Nat} (hs:s<d.next.length) (hc:c<3):nxD d s c<d.next.length∧dnx d (s:Int) c=((nxD d s c:Nat):Int):=Za9 hd hs hc
theorem ZbK {d:DfaD} (hd:fine d):∀ (w:List Nat) {s:Nat},isW w→s<d.next.length→∃ t:Nat,t<d.next.length∧runD d (s:Int) w=(t:Int)
 | [],s,_,hs=>⟨s,hs,rfl⟩
 | c::w,s,hw,hs=>by obtain⟨h1,h2⟩:=Zbt hw;obtain⟨h3,h4⟩:=Za1 hd hs h1;rw[ZaB,h4];exact ZbK hd w h2 h3
theorem ZaH (d:DfaD) (s:Nat):den d (s:Int)=enD d s:=by simp[den,enD]
theorem Zlh {d:DfaD} (hd:fine d):∀ (w:List Nat) {s t:Nat},isW w→s<d.next.length→t<d.next.length→clD d s=clD d t→den d (runD d (s:Int) w)=den d (runD d (t:Int) w)
 | [],s,t,_,hs,ht,h=>by rw[Zcw,Zcw,ZaH,ZaH];exact Zb2 hs ht h
 | c::w,s,t,hw,hs,ht,h=>by obtain⟨h1,h2⟩:=Zbt hw;obtain⟨h3,h4⟩:=Za1 hd hs h1;obtain⟨h5,h6⟩:=Za1 hd ht h1;rw[ZaB,ZaB,h4,h6];exact Zlh hd w h2 h3 h5 (Zf8 (fun s c hs hc=>(Za1 hd hs hc).1) hs ht h c h1)
theorem Zfy {d:DfaD} (hd:fine d):∀ (i:Nat) {s t:Nat},s<d.next.length→t<d.next.length→(∀ w,isW w→den d (runD d (s:Int) w)=den d (runD d (t:Int) w))→clAt d.next.length (nxD d) (enD d) i s=clAt d.next.length (nxD d) (enD d) i t
 | 0,s,t,hs,ht,h=>by
  refine(ZgW hs ht).2 ?_;have:=h [] Zho
  rwa [Zcw,Zcw,ZaH,ZaH] at this
 | i+1,s,t,hs,ht,h=>by
  refine(ZbS hs ht).2 ((Zaq _).2 ⟨Zfy hd i hs ht h,fun c hc => ?_⟩);obtain⟨h3,h4⟩:=Za1 hd hs hc;obtain⟨h5,h6⟩:=Za1 hd ht hc;refine Zfy hd i h3 h5 fun w hw => ?_
  have:=h (c::w) (Zld hc hw)
  rwa [ZaB,ZaB,h4,h6] at this
theorem Zi5 {d:DfaD} (hd:fine d) {s t:Nat} (hs:s<d.next.length) (ht:t<d.next.length) (h:∀ w,isW w→den d (runD d (s:Int) w)=den d (runD d (t:Int) w)):clD d s=clD d t:=Zfy hd _ hs ht h
theorem Zcc {d:DfaD} {s:Nat} (hs:s<d.next.length):clD d s<d.next.length:=by have:=(ZaT (d:=d) s hs).1;omega
theorem ZeI {d:DfaD} (hd:fine d) {s:Nat} (hs:s<d.next.length) {w:List Nat} (hw:isW w):den d (runD d ((clD d s:Nat):Int) w)=den d (runD d (s:Int) w) :=
 Zlh hd w hw (Zcc hs) hs (ZaT s hs).2
theorem Zby {d:DfaD} (hf:fine d) (K:Nat):(∀ x∈(bat (nxM d) ((clD d 0:Nat):Int) K).met,∃ s:Nat,x=(s:Int)∧s<d.next.length∧clD d s=s)∧(bat (nxM d) ((clD d 0:Nat):Int) K).met.length≤d.next.length:=by
 have hl:1≤d.next.length:=hf.1
 have h1:∀ x∈(bat (nxM d) ((clD d 0:Nat):Int) K).met,∃ s:Nat,x=(s:Int)∧s<d.next.length∧clD d s=s:=by
  refine Zbf (Q:=fun x=>∃ s:Nat,x=(s:Int)∧s<d.next.length∧clD d s=s) ?_ (fun x c hc hx => ?_) K
  ·exact⟨clD d 0,rfl,Zcc (by omega),(ZaT 0 (by omega)).2⟩
  obtain⟨s,rfl,hs,-⟩:=hx;have h2:=(Za9 hf hs hc).1;exact⟨clD d (nxD d s c),by simp[nxM],Zcc h2,(ZaT _ h2).2⟩
 refine⟨h1,?_⟩;have h2:=Zb7 (ZaN (nx:=nxM d) (a:=((clD d 0:Nat):Int)) K).1 (m:=ZaG d.next.length) (fun x hx=>by obtain⟨s,rfl,hs,-⟩:=h1 x hx;rw[Zbc];exact hs);rw[Zba] at h2;exact h2
theorem Zjx {d:DfaD} (hd:fine d) {K:Nat} (hK:d.next.length≤K):minD d=Zak (nxM d) (den d) (bat (nxM d) ((clD d 0:Nat):Int) K).met:=by unfold minD;rw[Zbu (Zby hd _).2 hK]
theorem ZkW {d:DfaD} (hd:fine d):fine (minD d):=Zc6 (Zby hd _).2 hd.2.1
theorem ZeC {d:DfaD} (hd:fine d):∀ (w:List Nat) {s:Nat},isW w→s<d.next.length→∃ t:Nat,t<d.next.length∧w.foldl (nxM d) ((clD d s:Nat):Int)=((clD d t:Nat):Int)∧runD d (s:Int) w=(t:Int)
 | [],s,_,hs=>⟨s,hs,rfl,rfl⟩
 | c::w,s,hw,hs=>by
  obtain⟨h1,h2⟩:=Zbt hw;obtain⟨h3,h4⟩:=Za1 hd hs h1;obtain⟨t,ht,e1,e2⟩:=ZeC hd w h2 h3;refine⟨t,ht,?_,by rw[ZaB,h4];exact e2⟩;have e3:nxM d ((clD d s:Nat):Int) c=((clD d (nxD d s c):Nat):Int):=by unfold nxM;rw[Int.toNat_natCast];congr 1;exact Zf8 (fun s c hs hc=>(Za1 hd hs hc).1) (Zcc hs) hs (ZaT s hs).2 c h1
  rw[List.foldl_cons,e3];exact e1
theorem Zjw {d:DfaD} (hd:fine d) {w:List Nat} (hw:isW w):accD (minD d) w=accD d w:=by unfold minD;rw[ZcC (Zby hd _).2 hw];obtain⟨t,ht,e1,e2⟩:=ZeC hd w hw (show 0<d.next.length from hd.1);rw[e1,ZaH];unfold accD;rw[show(0:Int)=((0:Nat):Int) from rfl,e2,ZaH];exact Zb2 (Zcc ht) ht (ZaT t ht).2
theorem Zkn {d:DfaD} (hd:fine d) {w:List Nat} (hw:isW w):accD (ZaU d) w=accD d w:=by unfold ZaU;rw[ZcC (ZbU hd _).2 hw];rfl
theorem Zgx {x y:DfaD} (hx:fine x) (hy:fine y) (h:∀ w,isW w→accD x w=accD y w):minD x=minD y:=by
 obtain⟨K,hK⟩:=eI (x.next.length+y.next.length);rw[Zjx hx (show x.next.length≤K by omega),Zjx hy (show y.next.length≤K by omega)];have lx:0<x.next.length:=hx.1;have ly:0<y.next.length:=hy.1
 let nq:Int × Int→Nat→Int × Int:=fun p c=>(nxM x p.1 c,nxM y p.2 c)
 let Q:Int × Int→Prop:=fun p=>∃ s t:Nat,p=((s:Int),(t:Int))∧s<x.next.length∧t<y.next.length∧clD x s=s∧clD y t=t∧∀ w,isW w→den x (runD x (s:Int) w)=den y (runD y (t:Int) w)
 let a:Int × Int:=(((clD x 0:Nat):Int),((clD y 0:Nat):Int))
 have h0:Q a:=⟨clD x 0,clD y 0,rfl,Zcc lx,Zcc ly,(ZaT 0 lx).2,(ZaT 0 ly).2,fun w hw=>by rw[ZeI hx lx hw,ZeI hy ly hw];exact h w hw⟩
 have hv:∀ p c,c<3→Q p→Q (nq p c):=by
  rintro p c hc ⟨s,t,rfl,hs,ht,-,-,hr⟩;obtain⟨h3,h4⟩:=Za1 hx hs hc;obtain⟨h5,h6⟩:=Za1 hy ht hc;refine⟨clD x (nxD x s c),clD y (nxD y t c),by simp[nq,nxM],Zcc h3,Zcc h5,(ZaT _ h3).2,(ZaT _ h5).2,fun w hw => ?_⟩;rw[ZeI hx h3 hw,ZeI hy h5 hw];have:=hr (c::w) (Zld hc hw)
  rwa [ZaB,ZaB,h4,h6] at this
 have f1:∀ p q,Q p→Q q→p.1=q.1→p=q:=by
  rintro p q ⟨s,t,rfl,hs,ht,-,e1,r1⟩ ⟨s',t',rfl,hs',ht',-,e2,r2⟩ he;simp only[Int.ofNat_inj] at he;subst he;have:=Zi5 hy ht ht' fun w hw=>(r1 w hw).symm.trans (r2 w hw)
  rw[e1,e2] at this;rw[this]
 have f2:∀ p q,Q p→Q q→p.2=q.2→p=q:=by
  rintro p q ⟨s,t,rfl,hs,ht,e1,-,r1⟩ ⟨s',t',rfl,hs',ht',e2,-,r2⟩ he;simp only[Int.ofNat_inj] at he;subst he;have:=Zi5 hx hs hs' fun w hw=>(r1 w hw).trans (r2 w hw).symm
  rw[e1,e2] at this;rw[this]
 have m1:=Zb6 (nx:=nq) (nx':=nxM x) (a:=a) (f:=Prod.fst) (Q:=Q) (en:=fun p=>den x p.1) (en':=den x) (K:=K) h0 hv f1 (fun _ _ _ _=>rfl) (fun _ _=>rfl);have m2:=Zb6 (nx:=nq) (nx':=nxM y) (a:=a) (f:=Prod.snd) (Q:=Q) (en:=fun p=>den x p.1) (en':=den y) (K:=K) h0 hv f2 (fun _ _ _ _=>rfl) (fun p hp=>by obtain⟨s,t,rfl,-,-,-,-,r⟩:=hp;exact(r [] Zho).symm);exact m1.trans m2.symm
theorem Zlu {d:DfaD} (hd:fine d):minD (minD d)=minD d:=Zgx (ZkW hd) hd fun _ hw=>Zjw hd hw
theorem ZkD {d:DfaD} (hd:fine d) (ht:ZaU d=d) (hr:∀ s t:Nat,s<d.next.length→t<d.next.length→(∀ w,isW w→den d (runD d (s:Int) w)=den d (runD d (t:Int) w))→s=t):minD d=d:=by
 have hc:∀ s,s<d.next.length→clD d s=s:=fun s hs=>hr _ _ (Zcc hs) hs fun w hw=>ZeI hd hs hw
 have h0:0<d.next.length:=hd.1
 have hb:=ZeP (nx:=dnx d) (nx':=nxM d) (a:=(0:Int)) (Q:=fun x=>∃ s:Nat,x=(s:Int)∧s<d.next.length) ⟨0,rfl,h0⟩ (by
  rintro x c hc ⟨s,rfl,hs⟩;obtain⟨h3,h4⟩:=Za1 hd hs hc;exact⟨_,h4,h3⟩) (by
  rintro x c hc' ⟨s,rfl,hs⟩;obtain⟨h3,h4⟩:=Za1 hd hs hc';unfold nxM;rw[Int.toNat_natCast,hc _ h3,h4]) d.next.length
 refine Eq.trans ?_ ht;unfold minD ZaU;rw[hc 0 h0,show((0:Nat):Int)=0 from rfl,← hb];unfold Zak;congr 1;refine List.map_congr_left fun x hx => ?_
 unfold Zad;refine List.map_congr_left fun c hc' => ?_
 obtain⟨h1,-⟩:=ZbU hd d.next.length;obtain⟨g1,g2⟩:=h1 x hx;obtain⟨s,rfl⟩:=Int.eq_ofNat_of_zero_le g1;obtain⟨h3,h4⟩:=Za1 hd (show s<d.next.length by omega) (List.mem_range.1 hc');unfold nxM;rw[Int.toNat_natCast,hc _ h3,h4]
theorem Zdy {α:Type} [DecidableEq α] {nx:α→Nat→α} {a:α} {en:α→Bool} {K:Nat} (hK:(bat nx a K).met.length≤K) {i:Nat} (hi:i<(bat nx a K).met.length) {w:List Nat} (hw:isW w) :
  den (Zak nx en (bat nx a K).met) (runD (Zak nx en (bat nx a K).met) (i:Int) w)=en (w.foldl nx ((bat nx a K).met.getD i a)):=by
 obtain⟨h1,h2⟩:=Zhc (en:=en) hK w hw _ (memD (d:=a) hi);rw[Zd1 hi (ZaN K).1] at h2;rw[h2,Zhv (Za3 h1)];congr 1;exact List.getElem_idxOf _
theorem Zhj {d:DfaD} (hd:fine d) {s t:Nat} (hs:s<(minD d).next.length) (ht:t<(minD d).next.length) (h:∀ w,isW w→den (minD d) (runD (minD d) (s:Int) w)=den (minD d) (runD (minD d) (t:Int) w)):s=t:=by
 have hK:=(Zby hd d.next.length).2;have hin:=(Zby hd d.next.length).1;have hl:(minD d).next.length=(bat (nxM d) ((clD d 0:Nat):Int) d.next.length).met.length:=Zay _ _ _;rw[hl] at hs ht;have h1:=hin _ (memD (d:=((clD d 0:Nat):Int)) hs);have h2:=hin _ (memD (d:=((clD d 0:Nat):Int)) ht);obtain⟨p,hp,hpl,hpc⟩:=h1;obtain⟨q,hq,hql,hqc⟩:=h2
 have key:p=q:=by
  rw[← hpc,← hqc];refine Zi5 hd hpl hql fun w hw => ?_
  have h3:=h w hw;unfold minD at h3;rw[Zdy hK hs hw,Zdy hK ht hw,hp,hq] at h3;have e:=fun (r:Nat) (hr:r<d.next.length) (hc:clD d r=r)=>ZeC hd w hw hr
  obtain⟨u,hu,u1,u2⟩:=e p hpl hpc;obtain⟨v,hv,v1,v2⟩:=e q hql hqc;rw[hpc] at u1;rw[hqc] at v1;rw[u1,v1,ZaH,ZaH] at h3;rw[u2,v2,ZaH,ZaH,← Zb2 (Zcc hu) hu (ZaT u hu).2,h3];exact Zb2 (Zcc hv) hv (ZaT v hv).2
 have e1:=Zd1 hs (ZaN (nx:=nxM d) (a:=((clD d 0:Nat):Int)) d.next.length).1 ((clD d 0:Nat):Int);have e2:=Zd1 ht (ZaN (nx:=nxM d) (a:=((clD d 0:Nat):Int)) d.next.length).1 ((clD d 0:Nat):Int);rw[hp] at e1;rw[hq,← key] at e2;exact e1.symm.trans e2
theorem ZkC {d:DfaD} (hd:fine d):ZaU (minD d)=minD d:=Zkl (Zby hd _).2
def vl (w:List Nat):Nat:=w.foldl (fun n c=>3*n+c+1) 0
section
variable {α:Type} [DecidableEq α] {nx:α→Nat→α} {a:α}
structure BI (s:Bs α) (B:Nat):Prop where
 len:s.words.length=s.met.length
 inc:∀ i j,i<j→j<s.met.length→vl (s.words.getD i [])<vl (s.words.getD j [])
 bnd:∀ j,j<s.met.length→vl (s.words.getD j [])≤B
omit [DecidableEq α] in
theorem BI.up {s:Bs α} {B B':Nat} (h:BI s B) (hB:B≤B'):BI s B':=⟨h.len,h.inc,fun j hj=>Nat.le_trans (h.bnd j hj) hB⟩
end
def Strs (B:Nat) (w:World) (v:Value) (ws:List (List Nat)):Prop:=Sl B w v ws.length 1 (wdCells ws)
theorem Strs.below {B:Nat} {w w':World} {v:Value} {ws:List (List Nat)} (h:Strs B w v ws) (he:Below w.heap.size w w'):Strs B w' v ws:=Sl.below h he
theorem Strs.form {B:Nat} {w:World} {v:Value} {ws:List (List Nat)} (h:Strs B w v ws):∃ a cap,v = .slice a ws.length cap∧ws.length≤cap∧cap≤9223372036854775807 ∧
  (0<ws.length→∃ b off,a=some ⟨b,off,none⟩∧b<w.heap.size∧∀ j,j<ws.length→w.cell? ⟨b,off+j,none⟩=some (.string (wdB (ws.getD j [])))):=by
 obtain⟨hl,a,cap,hv,h1,h2,h3⟩:=h;refine⟨a,cap,hv,h1,h2,fun hn => ?_⟩;obtain⟨b,off,ha,hb,hlt,hc⟩:=h3 hn;refine⟨b,off,ha,hlt,fun j hj => ?_⟩;rw[hc j (by omega)];simp[hj]
def okWs (ws:List (List Nat)):Prop:=∀ x∈ws,isW x∧x.length≤400000
def LOk (st:List (List Nat)):Prop:=(∀ x∈st,isW x)∧∀ i,i<st.length→(st.getD i []).length≤i
theorem LOk.visit {β:Type} [DecidableEq β] {key:List Nat→β} {s:List (List Nat)} (h:LOk s) {w:List Nat} (hw:isW w) (hl:w.length≤s.length):LOk (kvisit key s w):=by
 unfold kvisit
 split
 ·exact h
 refine⟨fun x hx => ?_,fun i hi => ?_⟩
 ·rcases List.mem_append.1 hx with hx|hx
  ·exact h.1 x hx
  simp only[List.mem_singleton] at hx;rw[hx];exact hw
 simp only[List.length_append,List.length_singleton] at hi;by_cases hin:i<s.length
 ·have:=h.2 i hin;simp only[List.getD_eq_getElem?_getD] at this ⊢;rw[List.getElem?_append_left hin];exact this
 obtain rfl:i=s.length:=by omega
 simpa using hl
theorem LOk.row {β:Type} [DecidableEq β] {key:List Nat→β} {s:List (List Nat)} (h:LOk s) {k:Nat} (hk:k<s.length):∀ n,n≤3→LOk (krow key s (s.getD k []) n)∧s.length≤(krow key s (s.getD k []) n).length
 | 0,_=>⟨h,Nat.le_refl _⟩
 | n+1,hn=>by obtain⟨h1,h2⟩:=h.row (key:=key) hk n (by omega);have h3:=(Zfe (key:=key) (krow key s (s.getD k []) n) (s.getD k []++[n])).length_le;refine⟨h1.visit (Zcy (h.1 _ (memD hk)) (Zhn (by omega))) ?_,Nat.le_trans h2 h3⟩;have:=h.2 k hk;rw[List.length_append,List.length_singleton];omega
theorem LOk.kat {β:Type} [DecidableEq β] {key:List Nat→β} {s:List (List Nat)} (h:LOk s):∀ k,LOk (kat key s k)
 | 0=>h
 | k+1=>by
  have ih:=LOk.kat (key:=key) h k;by_cases hk:k<(Go.Proofs.Ytfikabecgaappaa.kat key s k).length
  ·rw[Zc0 hk];exact(ih.row hk 3 (by omega)).1
  rw[Zc1 (by omega)];exact ih
theorem LOk.okWs {st:List (List Nat)} (h:LOk st) (hl:st.length≤1000):∀ x∈st,isW x∧x.length≤399999:=fun x hx=>by refine⟨h.1 x hx,?_⟩;obtain⟨i,hi,e⟩:=List.getElem_of_mem hx;have:=h.2 i hi;rw[Za8 hi,e] at this;omega
def hitD (d:DfaD) (g:DfaD):Option (List Nat):=hitP d g
theorem ZjI (d g:DfaD):hitD d g=hitK Zlt d g:=rfl
theorem ZkB:Zlt≤1600:=Nat.le_refl _
theorem ZgH {d g:DfaD} {w:List Nat} (h:hitD d g=some w):isW w∧accD d w≠accD g w:=by rw[ZjI] at h;exact ZkQ h
theorem ZjH (d:DfaD):Zl1 d (hitD d):=fun _ _ _ h=>ZgH h
theorem ZkR {K:Nat} {a b:DfaD} {w:List Nat} (h:hitK K a b=some w):w.length≤K:=by have hg:=(ZaN (nx:=ZbQ a b) (a:=((0,0):Int × Int)) K).2.1;obtain⟨i,hi,hw,-⟩:=Zc5 (d:=((0,0):Int × Int)) hg h;rw[← hw];exact Zie (nx:=ZbQ a b) (a:=((0,0):Int × Int)) K _ (memD (by omega))
theorem ZkS {d g:DfaD} {w:List Nat} (h:hitD d g=some w):w.length≤1600:=by rw[ZjI] at h;have:=ZkR h;have:=ZkB;omega
def preW (d:DfaD):Nat→List (List Nat)
 | 0=>[[]]
 | j+1=>(tabW d (hitD d) j).1
def resW (d:DfaD) (j:Nat):List (List Nat):=(tabW d (hitD d) j).2
def staW (d:DfaD) (j:Nat):List (List Nat):=(tabW d (hitD d) j).1
def gueW (d:DfaD) (j:Nat):DfaD:=gssW d (hitD d) j
theorem Ziu {α:Type} {l m:List α} (h:l <+: m) (hm:m.Nodup):l.Nodup:=by obtain⟨t,rfl⟩:=h;exact(List.nodup_append.1 hm).1
theorem Zjf (d:DfaD) (j:Nat) {w:List Nat} (h:hitD d (gueW d j)=some w):resW d (j+1)=resW d j++[w.drop (cutW d (staW d j) (gueW d j) w+1)]:=by show(tabW d (hitD d) j).2++_=_;have h':hitD d (Zao d (tabW d (hitD d) j).1 (tabW d (hitD d) j).2)=some w:=h;simp only[h',Option.getD_some];rfl
structure LTab (d:DfaD) (j:Nat):Prop where
 pre:LOk (preW d j)
 nd:((preW d j).map (rowW d (resW d j))).Nodup
 re:okWs (resW d j)
 rl:(resW d j).length≤j+1
 inv:LInv d (staW d j) (resW d j)
 st:LOk (staW d j)
theorem LTab.at {d:DfaD} (hd:Zae d.next d.ends=true):∀ j,(∀ i,i<j→(hitD d (gueW d i)).isSome=true)→LTab d j
 | 0,hy=>by
  have hinv:=(Zg3 hd (ZjH d) 0 hy).1
  have h0:LOk [[]]:=⟨fun x hx=>by simp at hx;subst hx;intro c hc;simp at hc,fun i hi=>by
   obtain rfl:i=0:=by simpa using hi
   simp⟩
  exact⟨h0,by simp[preW],fun x hx=>by simp[resW,tabW] at hx;subst hx;exact⟨fun c hc=>by simp at hc,by simp⟩,by simp[resW,tabW],hinv,LOk.kat h0 _⟩
 | j+1,hy=>by
  have ih:=LTab.at hd j fun i hi=>hy i (by omega)
  have hinv:=(Zg3 hd (ZjH d) (j+1) hy).1;obtain⟨w,hw⟩:=Option.isSome_iff_exists.1 (hy j (by omega));have hr:=Zjf d j hw;have hww:=(ZgH hw).1;have hpre:preW d (j+1) <+: staW d (j+1):=ZfP (key:=rowW d (resW d (j+1))) (s0:=preW d (j+1)) (Nat.zero_le (d.next.length+1));refine⟨ih.st,?_,fun x hx => ?_,?_,hinv,LOk.kat (s:=preW d (j+1)) ih.st _⟩
  ·obtain⟨t,ht⟩:=hpre;have h1:=hinv.nd;refine Ziu (m:=(staW d (j+1)).map (rowW d (resW d (j+1)))) ⟨t.map (rowW d (resW d (j+1))),?_⟩ h1;rw[← List.map_append,ht]
  ·rw[hr] at hx;rcases List.mem_append.1 hx with hx|hx
   ·exact ih.re x hx
   simp only[List.mem_singleton] at hx;subst hx;refine⟨ZfR hww _,?_⟩;have:=ZkS hw;rw[List.length_drop];omega
  rw[hr,List.length_append,List.length_singleton];have:=ih.rl;omega
/-! The guesses in memory. -/
def Ent.sub (X y:Ent):Prop:=(∀ w,X.holds w→y.holds w)∧∀ k,y.foot k→X.foot k
def GMem (X:Ent) (vals:List (Value × Value)) (gs:List DfaD):Prop:=vals.length=gs.length∧∀ i,i<gs.length →
 ∃ a1 c1 a2 c2 vs,vals.getD i (undef,undef)=(.slice a1 (gs.getD i ⟨[],[]⟩).next.length c1,.slice a2 (gs.getD i ⟨[],[]⟩).next.length c2) ∧
  Ent.sub X (Ent.rows 52 3 (.slice a1 (gs.getD i ⟨[],[]⟩).next.length c1) vs ((gs.getD i ⟨[],[]⟩).next.map intCells))∧Ent.sub X (Ent.row 4 1 (.slice a2 (gs.getD i ⟨[],[]⟩).next.length c2) (gs.getD i ⟨[],[]⟩).next.length (boolCells (gs.getD i ⟨[],[]⟩).ends))
theorem GMem.nil (X:Ent):GMem X [] []:=⟨rfl,fun i hi=>absurd hi (by simp)⟩
theorem Try.infoDfa:(Try.prog.info? 30).map (fun i=>(i.zero,i.size,i.bytes))=some (some (.agg #[.slice none 0 0,.slice none 0 0]),2,48):=by kernel_rfl
theorem GMem.own {w0 w:World} {L:List Ent} (h:St w0 w L) (i:Nat) {X:Ent} (hx:L[i]? = some X) {vals:List (Value × Value)} {gs:List DfaD} (hG:GMem X vals gs) {k:Nat} (hk:k<gs.length) :
  ∃ a1 c1 a2 c2,vals.getD k (undef,undef)=(.slice a1 (gs.getD k ⟨[],[]⟩).next.length c1,.slice a2 (gs.getD k ⟨[],[]⟩).next.length c2)∧(gs.getD k ⟨[],[]⟩).ends.length=(gs.getD k ⟨[],[]⟩).next.length ∧
   DfaO 52 3 4 w0.heap.size w.heap.size w (.agg #[.slice a1 (gs.getD k ⟨[],[]⟩).next.length c1,.slice a2 (gs.getD k ⟨[],[]⟩).next.length c2]) (gs.getD k ⟨[],[]⟩):=by
 obtain⟨a1,c1,a2,c2,vs,e,s1,s2⟩:=hG.2 k hk;have hil:i<L.length:=(List.getElem?_eq_some_iff.1 hx).1;have h1:=h.same i hx _ (s1.1 w) s1.2;have h2:=h.same i hx _ (s2.1 w) s2.2;have g1:=h1.intSS i (by rw[List.getElem?_set,if_pos rfl,if_pos hil]);have g2:=h2.row i (by rw[List.getElem?_set,if_pos rfl,if_pos hil]);have hl:(gs.getD k ⟨[],[]⟩).ends.length=(gs.getD k ⟨[],[]⟩).next.length:=by have:=g2.1;simp at this;simpa using this
 refine⟨a1,c1,a2,c2,e,hl,_,_,rfl,g1,?_⟩;unfold OBools;rw[hl];exact Zaa g2
def xb (b x:Bool):Bool:=b != x
def flB (b:Bool) (g:DfaD):DfaD:=⟨g.next,g.ends.map (xb b)⟩
theorem Zhs (b:Bool) (g:DfaD) (s:Int) (w:List Nat):runD (flB b g) s w=runD g s w:=rfl
theorem Zlf {b:Bool} {g:DfaD} (h:Zae g.next g.ends=true):Zae (flB b g).next (flB b g).ends=true:=by
 have hl:=Zac h;refine Zd3 hl.1 hl.2.1 ?_ fun i hi=>Zaw h hi
 show(g.ends.map (xb b)).length=g.next.length;rw[List.length_map];exact hl.2.2
theorem ZlD {b:Bool} {g:DfaD} (h:Zae g.next g.ends=true) {w:List Nat} (hw:isW w):accD (flB b g) w=xb b (accD g w):=by have hl:=Zac h;obtain⟨t,ht,hr⟩:=ZbK (Zan h) w (s:=0) hw (by omega);have hr:runD g 0 w=(t:Int):=hr;unfold accD;rw[Zhs,hr,ZaH,ZaH];show(g.ends.map (xb b)).getD t false=xb b (g.ends.getD t false);rw[List.getD_eq_getElem?_getD,List.getElem?_map,List.getD_eq_getElem?_getD,List.getElem?_eq_getElem (show t<g.ends.length by omega)];rfl
section
variable {key key':List Nat→List Bool} {f:List Bool→List Bool}
end
section
variable {b:Bool} {d M:DfaD}
end
def Zgz (p:Int × Int):DfaD:=if p.1=1 then Zen else if p.1=2 then oneD else minD ⟨[[2,2,2].set p.2.toNat 1,[2,2,2],[2,2,2]],[false,true,false]⟩
def oneQ (K:Nat) (k:Int) (a:DfaD):Option DfaD:=if k=8 then(ZdQ 81 K (ZbH (ZaJ a))).map minD else some (flB true a)
def twoQ (K:Nat) (k:Int) (a b:DfaD):Option DfaD :=
 if k=4 then(ZdQ 81 K (Zcm (ZaJ a) (ZaJ b))).map minD else if k=5 then(Zbm K (fun p q=>p||q) a b).map minD else(Zbm K (fun p q=>p&&q) a b).map minD
def ZdF (K:Nat) (p:Int × Int) (st:List DfaD):Option (List DfaD) :=
 if Zaj p=0 then some (Zgz p::st)
 else if Zaj p=1 then
  match st with
  | a::r=>(oneQ K p.1 a).map (·::r)
  | []=>none
 else
  match st with
  | b::a::r=>(twoQ K p.1 a b).map (·::r)
  | _=>none
def runC (K:Nat):List (Int × Int)→List DfaD→Option (List DfaD)
 | [],st=>some st
 | p::ps,st=>(ZdF K p st).bind (runC K ps)
theorem Zkm {d:DfaD} (hd:fine d):ZaU (flB true d)=flB true (ZaU d):=by
 have hm:=(ZbU hd d.next.length).1;unfold ZaU Zak flB;show DfaD.mk _ _=DfaD.mk _ _;congr 1;rw[List.map_map];refine List.map_congr_left fun x hx => ?_
 obtain⟨h1,h2⟩:=hm x hx;have h3:=hd.2.2.1;have hlt:x.toNat<d.ends.length:=by omega
 simp[den,hlt]
theorem Zlv {d:DfaD} (hd:Zae d.next d.ends=true) (hm:minD d=d):minD (flB true d)=flB true d:=by
 have hf:=Zan hd;have hF:=Zan (Zlf (b:=true) hd);have ht:ZaU d=d:=by have:=ZkC hf;rw[hm] at this;exact this
 refine ZkD hF (by rw[Zkm hf,ht]) fun s t hs ht' h => ?_
 have hs:s<d.next.length:=hs;have ht':t<d.next.length:=ht';refine Zhj hf (by rw[hm];exact hs) (by rw[hm];exact ht') fun w hw => ?_
 rw[hm];obtain⟨a,ha,hra⟩:=ZbK hf w hw hs;obtain⟨b,hb,hrb⟩:=ZbK hf w hw ht';have h1:=h w hw;rw[Zhs,Zhs,hra,hrb,ZaH,ZaH] at h1;rw[hra,hrb,ZaH,ZaH]
 have e:∀ i,i<d.next.length→enD (flB true d) i = !enD d i:=fun i hi=>by
  have h3:=(Zac hd).2.2;have hi2:i<d.ends.length:=by omega
  simp[enD,flB,hi2,xb]
 rw[e a ha,e b hb] at h1;simpa using h1
theorem Zf7 {K:Nat} (hK:K=40) (t:Ex) {d:DfaD} (h:Zal K t=some d):minD d=d:=by
 have key:∀ {y:DfaD},Zae y.next y.ends=true→Zat y=d→minD d=d:=fun {y} hy e=>by rw[← e,ZbB (Zan hy)];exact Zlu (Zan hy)
 cases t with
 | zero=>simp only[Zal,Option.some.injEq] at h;exact key ZdW h
 | one=>simp only[Zal,Option.some.injEq] at h;exact key ZfI h
 | ltr c=>simp only[Zal,Option.some.injEq] at h;exact key (Zdm c) h
 | join a b =>simp only[Zal,Option.bind_eq_some_iff,Option.map_eq_some_iff] at h;obtain⟨x,-,y,-,z,hz,e⟩:=h;exact key (Zcp hK hz) e
 | alt a b =>simp only[Zal,Option.bind_eq_some_iff,Option.map_eq_some_iff] at h;obtain⟨x,-,y,-,z,hz,e⟩:=h;exact key (Zbi hK hz) e
 | both a b =>simp only[Zal,Option.bind_eq_some_iff,Option.map_eq_some_iff] at h;obtain⟨x,-,y,-,z,hz,e⟩:=h;exact key (Zbi hK hz) e
 | neg a =>simp only[Zal,Option.map_eq_some_iff] at h;obtain⟨x,hx,e⟩:=h;exact key (ZfM (Zbk hK a hx)) e
 | star a =>simp only[Zal,Option.bind_eq_some_iff,Option.map_eq_some_iff] at h;obtain⟨x,-,z,hz,e⟩:=h;exact key (Zcp hK hz) e
theorem ZcZ {o:Option DfaD} (h:∀ d,o=some d→Zae d.next d.ends=true):o.map Zat=o.map minD:=by
 cases o with
 | none=>rfl
 | some d=>exact congrArg some (ZbB (Zan (h d rfl)))
theorem Zjr (d:DfaD):negD d=flB true d:=by unfold negD flB;congr 1;exact List.map_congr_left fun x _=>by cases x<;>rfl
theorem ZjA:Zat Zen=Zen:=by decide +kernel
theorem ZkH:Zat oneD=oneD:=by decide +kernel
theorem Zi8 {K:Nat} (hK:K=40):∀ (t:Ex) (rest:List (Int × Int)) (st:List DfaD),runC K (t.post++rest) st=(Zal K t).bind fun d=>runC K rest (d::st):=by
 intro t
 induction t with
 | zero =>intro rest st;show(some (Zen::st)).bind (runC K rest)=_;simp only[Zal,ZjA];rfl
 | one =>intro rest st;show(some (oneD::st)).bind (runC K rest)=_;simp only[Zal,ZkH];rfl
 | ltr c =>
  intro rest st;have e:ZdF K (3,(c.val:Int)) st=some (Zgz (3,(c.val:Int))::st):=by unfold ZdF;rw[if_pos (ZhR c)]
  show(ZdF K (3,(c.val:Int)) st).bind (runC K rest)=_;rw[e];simp only[Zal];rw[ZbB (Zan (Zdm c))];rfl
 | join a b ha hb =>
  intro rest st;show runC K ((a.post++b.post++[(4,0)])++rest) st=_;rw[List.append_assoc,List.append_assoc,ha];simp only[Zal];cases hx:Zal K a with
  | none=>rfl
  | some x =>
   show runC K (b.post++([(4,0)]++rest)) (x::st)=_;rw[hb];show _=((Zal K b).bind fun y=>(detM 81 K (ZcI x y)).map Zat).bind _;cases hy:Zal K b with
   | none=>rfl
   | some y =>show((twoQ K 4 x y).map (·::st)).bind (runC K rest)=((detM 81 K (ZcI x y)).map Zat).bind _;rw[show twoQ K 4 x y=(detM 81 K (ZcI x y)).map Zat by rw[ZcZ fun d hd=>Zcp hK hd,← Zh6,← Zew];rfl];cases (detM 81 K (ZcI x y)).map Zat<;>rfl
 | alt a b ha hb =>
  intro rest st;show runC K ((a.post++b.post++[(5,0)])++rest) st=_;rw[List.append_assoc,List.append_assoc,ha];simp only[Zal];cases hx:Zal K a with
  | none=>rfl
  | some x =>
   show runC K (b.post++([(5,0)]++rest)) (x::st)=_;rw[hb];show _=((Zal K b).bind fun y=>(Zbm K (fun p q=>p||q) x y).map Zat).bind _;cases hy:Zal K b with
   | none=>rfl
   | some y =>show((twoQ K 5 x y).map (·::st)).bind (runC K rest)=((Zbm K (fun p q=>p||q) x y).map Zat).bind _;rw[show twoQ K 5 x y=(Zbm K (fun p q=>p||q) x y).map Zat by rw[ZcZ fun d hd=>Zbi hK hd];rfl];cases (Zbm K (fun p q=>p||q) x y).map Zat<;>rfl
 | both a b ha hb =>
  intro rest st;show runC K ((a.post++b.post++[(6,0)])++rest) st=_;rw[List.append_assoc,List.append_assoc,ha];simp only[Zal];cases hx:Zal K a with
  | none=>rfl
  | some x =>
   show runC K (b.post++([(6,0)]++rest)) (x::st)=_;rw[hb];show _=((Zal K b).bind fun y=>(Zbm K (fun p q=>p&&q) x y).map Zat).bind _;cases hy:Zal K b with
   | none=>rfl
   | some y =>show((twoQ K 6 x y).map (·::st)).bind (runC K rest)=((Zbm K (fun p q=>p&&q) x y).map Zat).bind _;rw[show twoQ K 6 x y=(Zbm K (fun p q=>p&&q) x y).map Zat by rw[ZcZ fun d hd=>Zbi hK hd];rfl];cases (Zbm K (fun p q=>p&&q) x y).map Zat<;>rfl
 | neg a ha =>
  intro rest st;show runC K ((a.post++[(7,0)])++rest) st=_;rw[List.append_assoc,ha];simp only[Zal];cases hx:Zal K a with
  | none=>rfl
  | some x =>have hok:=Zbk hK a hx;show runC K rest (flB true x::st)=runC K rest (Zat (negD x)::st);rw[ZbB (Zan (ZfM hok)),Zjr,Zlv hok (Zf7 hK a hx)]
 | star a ha =>
  intro rest st;show runC K ((a.post++[(8,0)])++rest) st=_;rw[List.append_assoc,ha];simp only[Zal];cases hx:Zal K a with
  | none=>rfl
  | some x =>show((oneQ K 8 x).map (·::st)).bind (runC K rest)=((detM 81 K (Zde x)).map Zat).bind _;rw[show oneQ K 8 x=(detM 81 K (Zde x)).map Zat by rw[ZcZ fun d hd=>Zcp hK hd,← Zh6,← Zea];rfl];cases (detM 81 K (Zde x)).map Zat<;>rfl
theorem Zin {K:Nat} (hK:K=40) (t:Ex):runC K t.post []=(Zal K t).map fun d=>[d]:=by have h:=Zi8 hK t [] [];rw[List.append_nil] at h;rw[h];cases Zal K t<;>rfl
theorem ZkJ {p:Int × Int} (h:pOk p=true) (hn:Zaj p=0):Zae (Zgz p).next (Zgz p).ends=true:=by
 unfold Zgz
 split
 ·exact ZdW
 split
 ·exact ZfI
 rename_i h1 h2
 have h3:p.1=3∧0≤p.2∧p.2≤2:=by
  unfold Zaj at hn;rw[if_pos h] at hn;simp only[pOk,inB,Bool.and_eq_true,Bool.or_eq_true,decide_eq_true_eq,Bool.not_eq_true',decide_eq_false_iff_not] at h
  split at hn
  ·omega
  split at hn<;>omega
 obtain⟨c,hc⟩:∃ c:Fin 3,p.2.toNat=c.val:=⟨⟨p.2.toNat,by omega⟩,rfl⟩;rw[hc];have:=Zbh (Zdm c);rw[ZbB (Zan (Zdm c))] at this;exact this
theorem Zjv {d:DfaD} (h:Zae d.next d.ends=true):Zae (minD d).next (minD d).ends=true:=by rw[← ZbB (Zan h)];exact Zbh h
theorem ZhJ {l:List Int} {m:Int} (h:∀ j,j<l.length→(0≤l.getD j 0∧l.getD j 0≤m-1)∧(0<j→l.getD (j-1) 0<l.getD j 0)):stOk l m=true:=by
 unfold stOk;rw[List.all_eq_true];intro j hj;obtain⟨h1,h2⟩:=h j (List.mem_range.1 hj);unfold okAt;rw[Bool.and_eq_true,Bool.or_eq_true];refine⟨by simp only[inB,Bool.and_eq_true,decide_eq_true_eq];exact h1,?_⟩;by_cases h0:j=0
 ·exact .inl (decide_eq_true h0)
 exact .inr (decide_eq_true (h2 (by omega)))
theorem Zct {s t:Nat}:(2 ^ s).testBit t=decide (s=t):=by rw[Nat.testBit_two_pow]
theorem ZcL {d:DfaD}:∀ {k:Nat} {m:Int × Int × Int},m∈mvs d k↔∃ s c:Nat,s<k∧c<3∧m=((s:Int),(c:Int),(d.next.getD s []).getD c 0)
 | 0,m=>by simp[mvs]
 | k+1,m=>by
  rw[show mvs d (k+1)=mvs d k++rowM d k from rfl,List.mem_append,ZcL];constructor
  ·rintro(⟨s,c,h1,h2,h3⟩|h)
   ·exact⟨s,c,by omega,h2,h3⟩
   obtain⟨c,hc,rfl⟩:=List.mem_map.1 h;exact⟨k,c,by omega,List.mem_range.1 hc,rfl⟩
  rintro⟨s,c,h1,h2,h3⟩;by_cases h:s=k
  ·subst h;exact .inr (List.mem_map.2 ⟨c,List.mem_range.2 h2,h3.symm⟩)
  exact .inl ⟨s,c,by omega,h2,h3⟩
theorem ZbL {d:DfaD} (k u:Nat):Zbe (mvs d k) u:=by intro m hm he;obtain⟨s,c,-,-,rfl⟩:=ZcL.1 hm;simp only at he;omega
theorem Zke {a b:Nat} (h:∀ t,a.testBit t=true↔b.testBit t=true):a=b:=by apply Nat.eq_of_testBit_eq;intro t;rw[Bool.eq_iff_iff];exact h t
theorem Zlj {d:DfaD} (hd:Zae d.next d.ends=true) {s c:Nat} (hs:s<d.next.length) (hc:c<3):∃ q:Nat,q<d.next.length∧stV 40 (mvs d d.next.length) (2 ^ s) (c:Int)=2 ^ q:=by
 have hr:=(Zaw hd hs).2 c hc;obtain⟨q,hq⟩:=Int.eq_ofNat_of_zero_le hr.1;refine⟨q,by omega,?_⟩;unfold stV;rw[Zd4 (ZbL _ _)];apply Zke;intro t;rw[Zbb,Zct,decide_eq_true_eq];constructor
 ·rintro(h|⟨m,hm,h1,h2,h3⟩)
  ·simp at h
  obtain⟨s',c',h4,h5,rfl⟩:=ZcL.1 hm;rw[Zct,decide_eq_true_eq] at h2;simp only[Int.toNat_natCast] at h2;subst h2;have:c'=c:=by simp only at h1;omega
  subst this;simp only[hq] at h3;omega
 rintro rfl;right;refine⟨_,ZcL.2 ⟨s,c,hs,hc,rfl⟩,rfl,?_,?_⟩
 ·rw[Zct];simp
 simp only[hq];omega
theorem Zlw {d:DfaD} (hd:Zae d.next d.ends=true) (K:Nat):(metS (ZaJ d) K).length≤d.next.length:=by
 have hl:=Zac hd;have hf:fstV (ZaJ d)=2 ^ 0:=by unfold fstV;rw[show(ZaJ d).moves=mvs d d.next.length from rfl,Zd4 (ZbL _ _)];rfl
 have hall:∀ x∈metS (ZaJ d) K,∃ s:Nat,s<d.next.length∧x=(((2 ^ s:Nat):Int),0):=by refine Zbf (Q:=fun x=>∃ s:Nat,s<d.next.length∧x=(((2 ^ s:Nat):Int),0)) ⟨0,by omega,by rw[hf]⟩ ?_ K;rintro x c hc ⟨s,hs,rfl⟩;obtain⟨q,hq,h⟩:=Zlj hd hs hc;refine⟨q,hq,?_⟩;unfold nxS;rw[show(ZaJ d).moves=mvs d d.next.length from rfl];simp only[Int.toNat_natCast];rw[h]
 have:=Zb7 (ZaN (nx:=nxS (ZaJ d)) (a:=(((fstV (ZaJ d):Nat):Int),0)) K).1 (m:=(List.range d.next.length).map fun s=>(((2 ^ s:Nat):Int),(0:Int))) fun x hx=>by obtain⟨s,hs,rfl⟩:=hall x hx;exact List.mem_map.2 ⟨s,List.mem_range.2 hs,rfl⟩
 simpa using this
theorem Zf3 (d:DfaD):∀ k,(eds d k).Pairwise (·<·)
 | 0=>List.Pairwise.nil
 | k+1=>by
  unfold eds
  split
  ·rw[List.pairwise_append];refine⟨Zf3 d k,List.pairwise_singleton _ _,fun x hx y hy => ?_⟩;rw[List.mem_singleton.1 hy];exact(ZeF d k x hx).2
  exact Zf3 d k
theorem ZcW {d:DfaD} (hd:Zae d.next d.ends=true):ZfL (ZaJ d)=true:=by
 have hl:=Zac hd;unfold ZfL;simp only[Bool.and_eq_true,decide_eq_true_eq];refine⟨⟨⟨⟨?_,?_⟩,?_⟩,?_⟩,?_⟩
 ·show inB (d.next.length:Int) 0 40=true;simp only[inB,Bool.and_eq_true,decide_eq_true_eq];exact⟨by omega,by omega⟩
 ·show(mvs d d.next.length).length≤400;rw[ZcM];omega
 ·refine ZhJ fun j hj => ?_
  have hj:j<1:=hj;obtain rfl:j=0:=by omega
  refine⟨?_,fun h=>by omega⟩;simp only[ZaJ,List.getD_cons_zero];omega
 ·refine ZhJ fun j hj => ?_
  have hj:j<(eds d d.next.length).length:=hj;have h1:=ZeF d _ _ (memD (d:=(0:Int)) hj);refine⟨?_,fun h => ?_⟩
  ·show 0≤(eds d d.next.length).getD j 0∧(eds d d.next.length).getD j 0≤(d.next.length:Int)-1;omega
  have:=List.pairwise_iff_getElem.1 (Zf3 d d.next.length) (j-1) j (by omega) hj (by omega);show(eds d d.next.length).getD (j-1) 0<(eds d d.next.length).getD j 0;rw[Za8 (by omega),Za8 hj];exact this
 rw[List.all_eq_true];intro m hm;obtain⟨s,c,h1,h2,rfl⟩:=ZcL.1 (show m∈mvs d d.next.length from hm);have hr:=(Zaw hd h1).2 c h2;show mvOk (d.next.length:Int) _=true;simp only[mvOk,inB,Bool.and_eq_true,decide_eq_true_eq];exact⟨⟨⟨by omega,by omega⟩,by omega,by omega⟩,by omega,by omega⟩
end Go.Proofs.Ytfikabecgaappaa
namespace Go.Proofs.Ytfikabecgaappaa
open Go.RowKit
theorem ZlR {d:DfaD} (hd:Zae d.next d.ends=true) {s c:Nat} (hs:s<d.next.length) (hc:c<3):stV 40 (mvs d d.next.length) (2 ^ s) (c:Int)=2 ^ nxD d s c:=by
 have hr:=(Zaw hd hs).2 c hc;unfold stV;rw[Zd4 (ZbL _ _)];apply Zke;intro t;rw[Zbb,Zct,decide_eq_true_eq];constructor
 ·rintro(h|⟨m,hm,h1,h2,h3⟩)
  ·simp at h
  obtain⟨s',c',h4,h5,rfl⟩:=ZcL.1 hm;rw[Zct,decide_eq_true_eq] at h2;simp only[Int.toNat_natCast] at h2;subst h2;have:c'=c:=by simp only at h1;omega
  subst this;exact h3
 rintro rfl;right;refine⟨_,ZcL.2 ⟨s,c,hs,hc,rfl⟩,rfl,?_,rfl⟩;rw[Zct];simp
theorem ZjP (d:DfaD):fstV (ZaJ d)=2 ^ 0:=by unfold fstV;rw[show(ZaJ d).moves=mvs d d.next.length from rfl,Zd4 (ZbL _ _)];rfl
theorem Zht {d:DfaD}:∀ {k:Nat} {x:Int},x∈eds d k↔∃ s:Nat,x=(s:Int)∧s<k∧enD d s=true
 | 0,x=>by simp[eds]
 | k+1,x=>by
  have ih:=Zht (d:=d) (k:=k) (x:=x);unfold eds;by_cases h:d.ends.getD k false=true
  ·rw[if_pos h,List.mem_append,ih,List.mem_singleton];constructor
   ·rintro(⟨s,h1,h2,h3⟩|rfl)
    ·exact⟨s,h1,by omega,h3⟩
    exact⟨k,rfl,by omega,h⟩
   rintro⟨s,h1,h2,h3⟩;by_cases hk:s=k
   ·subst hk;exact .inr h1
   exact .inl ⟨s,h1,by omega,h3⟩
  rw[if_neg h,ih];constructor
  ·rintro⟨s,h1,h2,h3⟩;exact⟨s,h1,by omega,h3⟩
  rintro⟨s,h1,h2,h3⟩;by_cases hk:s=k
  ·subst hk;exact absurd h3 h
  exact⟨s,h1,by omega,h3⟩
theorem ZjV {d:DfaD} (hd:Zae d.next d.ends=true) {K:Nat} (hK:d.next.length≤K):detK K (ZaJ d)=some (ZaU d):=by
 have hl:=Zac hd;have hf:=Zan hd;unfold detK;rw[if_pos ⟨ZcW hd,Nat.le_trans (Zlw hd K) hK⟩];congr 1
 let f:Int→Int × Int:=fun x=>(((2 ^ x.toNat:Nat):Int),0)
 let Q:Int→Prop:=fun x=>∃ s:Nat,x=(s:Int)∧s<d.next.length
 have hm:=Zb6 (nx:=dnx d) (nx':=nxS (ZaJ d)) (a:=(0:Int)) (f:=f) (Q:=Q) (en:=den d) (en':=enS (ZaJ d)) (K:=K) ⟨0,rfl,by omega⟩ (by
  rintro x c hc ⟨s,rfl,hs⟩;obtain⟨h3,h4⟩:=Za1 hf hs hc;exact⟨_,h4,h3⟩) (by
  rintro x y ⟨s,rfl,hs⟩ ⟨t,rfl,ht⟩ h;have h1:((2 ^ s:Nat):Int)=((2 ^ t:Nat):Int):=congrArg Prod.fst h;have:s=t:=(Nat.pow_right_inj (show 1<2 by omega)).1 (Int.ofNat_inj.1 h1);rw[this]) (by
  rintro x c hc ⟨s,rfl,hs⟩;obtain⟨h3,h4⟩:=Za1 hf hs hc;simp only[f,h4,nxS,Int.toNat_natCast];rw[show(ZaJ d).moves=mvs d d.next.length from rfl,ZlR hd hs hc]) (by
  rintro x ⟨s,rfl,hs⟩;rw[ZaH];simp only[f,enS,Int.toNat_natCast];unfold endV;rw[show(ZaJ d).ends=eds d d.next.length from rfl,Bool.eq_iff_iff,List.any_eq_true];constructor
  ·rintro⟨x,hx,hb⟩;obtain⟨t,rfl,ht,he⟩:=Zht.1 hx;rw[Zct,decide_eq_true_eq] at hb;simp only[Int.toNat_natCast] at hb;rw[hb];exact he
  intro he;refine⟨(s:Int),Zht.2 ⟨s,rfl,hs,he⟩,?_⟩;rw[Zct];simp)
 have h0:f 0=((((fstV (ZaJ d):Nat):Int),0):Int × Int):=by rw[ZjP];rfl
 rw[h0] at hm;refine hm.trans ?_;unfold ZaU;rw[Zbu (ZbU hf _).2 hK]
theorem Zjq {d:DfaD} (hd:Zae d.next d.ends=true) {w:List Nat} (hw:isW w):accS (ZaJ d) w=accD d w:=by rw[← ZkZ (ZjV hd (Nat.le_refl _)) hw,Zkn (Zan hd) hw]
end Go.Proofs.Ytfikabecgaappaa
