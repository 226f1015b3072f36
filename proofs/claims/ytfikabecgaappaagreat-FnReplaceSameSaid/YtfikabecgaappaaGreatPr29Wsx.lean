/-
  The walks over the program's leading and DfaStarts; what they answer, plain.
  Condition: the automaton reads as such.
-/
import Derived.Test.YtfikabecgaappaaGreatPr28Cmb
set_option maxHeartbeats 16000000
set_option maxRecDepth 100000
namespace Go.Proofs.YtfikabecgaappaaGreat
open Go.RowKit
def ZnH (d:DfaD) (s:Nat):Prop:=∃ w,isW w∧den d (runD d (s:Int) w)=true
theorem ZhO {α:Type} [DecidableEq α]:∀ {l:List α},¬ l.Nodup→∃ (i j:Nat) (hj:j<l.length) (hi:i<j),l[i]'(Nat.lt_trans hi hj)=l[j]
 | [],h=>absurd List.nodup_nil h
 | x::l,h=>by
  rw[List.nodup_cons] at h;by_cases hx:x∈l
  ·obtain⟨j,hj,e⟩:=List.getElem_of_mem hx;exact⟨0,j+1,by simp only[List.length_cons];omega,by omega,by simpa using e.symm⟩
  obtain⟨i,j,hj,hi,e⟩:=ZhO (l:=l) fun hn=>h ⟨hx,hn⟩
  exact⟨i+1,j+1,by simp only[List.length_cons];omega,by omega,by simpa using e⟩
theorem Zgn {d:DfaD} (hd:fine d) {s:Nat} (hs:s<d.next.length):∀ (n:Nat) (w:List Nat),w.length≤n→isW w→den d (runD d (s:Int) w)=true→∃ w',w'.length<d.next.length∧isW w'∧den d (runD d (s:Int) w')=true
 | n,w,hn,hw,he=>by
  by_cases hl:w.length<d.next.length
  ·exact⟨w,hl,hw,he⟩
  have key:∀ i,∃ t:Nat,t<d.next.length∧runD d (s:Int) (w.take i)=(t:Int):=fun i=>ZdJ hd _ (Zha hw i) hs
  have hnd:¬ ((List.range (w.length+1)).map fun i=>runD d (s:Int) (w.take i)).Nodup:=fun h=>by
   have:=Zdn (m:=(List.range d.next.length).map fun (i:Nat)=>(i:Int)) h fun x hx=>by obtain⟨i,-,rfl⟩:=List.mem_map.1 hx;obtain⟨t,ht,e⟩:=key i;rw[e];exact List.mem_map.2 ⟨t,List.mem_range.2 ht,rfl⟩
   simp only[List.length_map,List.length_range] at this;omega
  obtain⟨i,j,hj,hij,e⟩:=ZhO hnd;simp only[List.length_map,List.length_range] at hj;simp only[List.getElem_map,List.getElem_range] at e;have hr:runD d (s:Int) (w.take i++w.drop j)=runD d (s:Int) w:=by rw[Zje,e,← Zje,List.take_append_drop]
  have hlen:(w.take i++w.drop j).length<w.length:=by rw[List.length_append,List.length_take,List.length_drop];omega
  cases n with
  | zero=>omega
  | succ n=>exact Zgn hd hs n (w.take i++w.drop j) (by omega) (Zdo (Zha hw i) (Zhb hw j)) (by rw[hr];exact he)
structure LdI (d:DfaD) (F:List Bool) (r s0 c0:Nat):Prop where
 len:F.length=d.next.length
 sound:∀ s,s<d.next.length→F.getD s false=true→ZnH d s
 old:∀ s w,s<d.next.length→isW w→w.length≤r→den d (runD d (s:Int) w)=true→F.getD s false=true
 done:∀ s w,s<s0→s<d.next.length→isW w→w.length≤r+1→den d (runD d (s:Int) w)=true→F.getD s false=true
 now:∀ c w,c<c0→c<3→isW w→w.length≤r→den d (runD d (s0:Int) (c::w))=true→F.getD s0 false=true
theorem LdI.start {d:DfaD} (hd:Zae d.next d.ends=true):LdI d d.ends 0 0 0:=by have hl:=Zac hd;refine⟨hl.2.2,fun s hs h=>⟨[],ZiV,by rw[Zdk,ZaW];exact h⟩,fun s w hs hw hl h => ?_,fun s w hs=>absurd hs (by omega),fun c w hc=>absurd hc (by omega)⟩;have:w=[]:=List.length_eq_zero_iff.1 (by omega);subst this;rw[Zdk,ZaW] at h;exact h
theorem LdI.round {d:DfaD} {F:List Bool} {r:Nat} (h:LdI d F r d.next.length 0):LdI d F (r+1) 0 0 :=
 ⟨h.len,h.sound,fun s w hs hw hl he=>h.done s w hs hs hw hl he,fun s w hs=>absurd hs (by omega),fun c w hc=>absurd hc (by omega)⟩
structure LdE (d:DfaD) (F:List Bool):Prop where
 len:F.length=d.next.length
 iff:∀ s,s<d.next.length→(F.getD s false=true↔ZnH d s)
theorem LdI.all {d:DfaD} (hd:Zae d.next d.ends=true) {F:List Bool} (h:LdI d F d.next.length 0 0):LdE d F :=
 ⟨h.len,fun s hs=>⟨h.sound s hs,fun ⟨w,hw,he⟩=>by obtain⟨w',h1,h2,h3⟩:=Zgn (ZaB hd) hs w.length w (Nat.le_refl _) hw he;exact h.old s w' hs h2 (by omega) h3⟩⟩
def wsP (ls:List (List Nat)):Nat→List (Int × Int)
 | 0=>[(1,0)]
 | k+1=>if k=0 then Zby (ls.getD k []) else wsP ls k++Zby (ls.getD k [])++[(5,0)]
def wsOk (ls:List (List Nat)):Bool:=(List.range ls.length).all (fun k=>wdOk (ls.getD k [])&&decide ((wsP ls (k+1)).length≤60))
theorem Zku {ls:List (List Nat)} (h:wsOk ls=true) {k:Nat} (hk:k<ls.length):wdOk (ls.getD k [])=true∧(wsP ls (k+1)).length≤60:=by
 have:=List.all_eq_true.1 h k (List.mem_range.2 hk)
 rwa [Bool.and_eq_true,decide_eq_true_eq] at this
theorem Zi7 {ls:List (List Nat)} {k:Nat} (hk:k<ls.length) (h:¬ (wdOk (ls.getD k [])=true∧(wsP ls (k+1)).length≤60)):wsOk ls=false:=by
 cases hb:wsOk ls with
 | false=>rfl
 | true=>exact absurd (Zku hb hk) h
theorem ZjS {l:List Nat} (h:wdOk l=false):Zby l=[]:=by unfold Zby;rw[if_neg (by rw[h];decide)]
theorem ZjR {l:List Nat} (h:wdOk l=true):1≤(Zby l).length∧(Zby l).length≤16:=by
 have h8:=(Zge h).1;unfold Zby;rw[if_pos h]
 split
 ·decide
 next h0 =>
 refine⟨?_,by have:=Zip l l.length;omega⟩;obtain⟨k,hk⟩:∃ k,l.length=k+1:=⟨l.length-1,by omega⟩;rw[hk];unfold wxK;rw[List.length_append,List.length_append,List.length_singleton];omega
theorem ZnJ (ls:List (List Nat)):wsP ls 1=Zby (ls.getD 0 []):=by unfold wsP;rw[if_pos rfl]
theorem Zmt {ls:List (List Nat)} {k:Nat} (h:0<k):wsP ls (k+1)=wsP ls k++Zby (ls.getD k [])++[(5,0)]:=by rw[wsP,if_neg (by omega)]
def RPo (es:List (Int × Int)) (w:World) (e:Ending) (w':World):Prop:=∃ a c,e = .returned (.slice a es.length c)∧St w w' [Ent.row 57 2 (.slice a es.length c) es.length (es.flatMap Zag)]
def TbH (X:Ent) (v:Value) (N:Nat) (T:Nat→Nat→Bool):Prop:=∃ (B c:Nat) (R:Nat→Nat),v = .slice (some ⟨B,0,none⟩) N c∧∀ u,X.holds u→(∀ i,i<N→u.cell? ⟨B,i,none⟩=some (.slice (some ⟨R i,0,none⟩) N N))∧∀ i j,i<N→j<N→u.cell? ⟨R i,j,none⟩=some (.bool (T i j))
theorem TbH.congr {X:Ent} {v:Value} {N:Nat} {T U:Nat→Nat→Bool} (h:TbH X v N T) (hc:∀ i j,i<N→j<N→T i j=U i j):TbH X v N U:=by obtain⟨B,c,R,hv,h1⟩:=h;exact⟨B,c,R,hv,fun u hu=>⟨(h1 u hu).1,fun i j hi hj=>by rw[(h1 u hu).2 i j hi hj,hc i j hi hj]⟩⟩
theorem St.newRow0 {w0 w:World} {L:List Ent} (h:St w0 w L) (T size:Nat):St w0 (w.alloc (.cells #[] T)) (L++[Ent.row T size (.slice (some ⟨w.heap.size,0,none⟩) 0 0) 0 []]):=by have h1:=(h.alloc w.heap.size rfl #[] T).boxrow (b:=w.heap.size) (T:=T) L.length 0 size [] (by simp) (by simp) (by unfold maxLen;omega);simpa using h1
theorem Zdm {x y:Int}:∀ u∈[Value.int .i64 x,Value.int .i64 y],u.oneCell'=true:=by intro u hu;simp at hu;rcases hu with rfl|rfl<;>rfl
theorem Tryz.infoPart2:(Tryz.prog.info? 57).map (fun i=>(i.zero,i.size,i.bytes))=some (some (.agg #[.int .i64 0,.int .i64 0]),2,16):=by kernel_rfl
theorem ZeM (l:List Nat) (w:World) (ht:isT l) (hl:l.length≤2000000):Calls Tryz.prog 164 #[.string (txB l)] w fun e w'=>RPo (Zby l) w e w':=by
 obtain⟨y,hy⟩:=eJ (wdOk l);have Hc:=qh (fun u=>Zee l u ht hl y hy);obtain⟨i0,hi,hz0,hz1,hz2⟩:=info_parts Tryz.infoPart2;replace hi:=qh hi;have Hhz0:=qh hz0;clear hz0;have Hhz1:=qh hz1;clear hz1;have Hhz2:=qh hz2;clear hz2;have HS0:=qh ((St.start w).newRow0 57 2);cases y with
 | false =>
  have he:Zby l=[]:=by unfold Zby;rw[hy];rfl
  rw[he];clear hy ht hl
  go_enter Tryz.func164, Tryz.ntmps164
  go_wp2_with (go_at_call 64;refine(Hc.out _).mono ?_;rintro e w' ⟨rfl,rfl⟩);go_ret;exact⟨_,0,rfl,HS0.out⟩
 | true =>
  obtain⟨hn8,h97⟩:=Zge hy;have hes:Zby l=if l.length=0 then [(2,0)] else wxK l l.length:=by unfold Zby;rw[if_pos hy]
  obtain⟨Q,hQ⟩:=eJ (Zby l);rw[hQ] at hes ⊢;obtain⟨n,hn⟩:=eJ (l.length);have hsz:=ZaE l;have hemp:=Zkz l;rw[hn] at hsz hn8 hes;have HQ:=qh hes;have Ht:=qh ht;have H97:=qh h97;have Hemp:=qh hemp;have Hhn:=qh hn;clear hn;clear hy ht hl hes h97 hemp hQ
  go_enter Tryz.func164, Tryz.ntmps164
  go_wp2_with (go_at_call 64;refine(Hc.out _).mono ?_;rintro e w' ⟨rfl,rfl⟩)
  go_loopw [3,4] (fun ev iv wr=>∃ (k c:Nat) (a:Option Addr),iv = .int .i64 (k:Int)∧ev = .slice a (wxK l k).length c∧k≤n∧St w wr [Ent.row 57 2 (.slice a (wxK l k).length c) (wxK l k).length ((wxK l k).flatMap Zag)]) (fun _ iv _=>n-(intOf iv).toNat)
  case atStart=>exact⟨0,0,_,rfl,rfl,Nat.zero_le _,HS0.out⟩
  case round =>
   obtain⟨k,c,a,rfl,rfl,hkn,hS⟩:=hrel;obtain⟨wq,hwq⟩:∃ wq:World,wq=wr:=⟨_,rfl⟩;subst hwq;have hwi:IntKind.i64.wrap ((k:Int)+1)=(k:Int)+1:=IntWalk.i64_in _ (by omega);have hlen:=Zip l k;obtain⟨E,hE⟩:=eI (wxK l k);rw[← hE] at hS hlen ⊢;by_cases hlt:k<n
   ·have hlI:(k:Int)<(n:Int):=by omega
    have hil:k<l.length:=by rw[Hhn.out];exact hlt
    have hrun:=Zb9 hil Ht.out;obtain⟨h97a,h97b⟩:=H97.out k hil;obtain⟨ck,hck⟩:∃ ck:Nat,ck=l.getD k 0-97:=⟨_,rfl⟩;have hc2:((l.getD k 0:Nat):Int)=97+(ck:Int):=by omega
    rw[hc2] at hrun
    have hw8:IntKind.u8.wrap (97+(ck:Int)-97)=(ck:Int):=by
     have:97+(ck:Int)-97=(ck:Int):=by omega
     rw[this];exact IntWalk.u8_in _ (by omega)
    have hw9:IntKind.i64.wrap (ck:Int)=(ck:Int):=IntWalk.i64_in _ (by omega);have HSa:=qh (hS.alloc wq.heap.size rfl #[.int .i64 3,.int .i64 (ck:Int)] 57);have HR:=qh (HSa.out.row 0 rfl);have hst:wxK l (k+1)=E++[(3,(ck:Int))]++(if k=0 then [] else [(4,0)]):=by rw[wxK,← hE,← hck]
    have Hhst:=qh hst;clear hst;replace hck:=qh hck;replace hE:=qh hE;clear hS hc2 h97a h97b hil;by_cases hk0:k=0
    ·have hkI:¬ (k:Int)>0:=by omega
     have hkI2:(k:Int)≤0:=by omega
     have hst0:=Hhst.out;rw[if_pos hk0,List.append_nil] at hst0;have Hhst0:=qh hst0;clear hst0;have Hhk0:=qh hk0;clear hk0;go_wp2_with (at_builtin;refine wpList_append_lies _ rfl _ _ _ rfl _ 57 i0 (.agg #[.int .i64 0,.int .i64 0]) 2 16 Tryz.underlying23 hi.out Hhz0.out Hhz1.out Hhz2.out rfl (by omega) _ E.length _ rfl HR.out ⟨wq.heap.size,0,none⟩ 1 1 [.int .i64 3,.int .i64 (ck:Int)] rfl rfl (World.news_of_block (HSa.out.box 1 rfl)) Zdm (by omega) (by unfold maxLen;omega) (by omega) HSa.out.size _ rfl ?_;intro g7 c7 w7 hown hgrow hat hlt';have HS7:=qh ((HSa.out.app 0 rfl hown hgrow hat).pick [0] (by decide));clear hown hgrow hat hlt';have HSb:=qh (HS7.out.alloc w7.heap.size rfl #[.int .i64 4,.int .i64 0] 57);have HR2:=qh (HSb.out.row 0 rfl));go_roundw
     case rel =>refine⟨k+1,c7,some ⟨g7,0,none⟩,by go_num,by rw[Hhst0.out,List.length_append];rfl,by omega,?_⟩;rw[Hhst0.out,List.length_append,List.flatMap_append];exact HS7.out
     case measure=>simp[intOf]<;>omega
    have hkI:(k:Int)>0:=by omega
    have hkI2:0<(k:Int):=by omega
    have hst0:=Hhst.out;rw[if_neg hk0] at hst0;have Hhst0:=qh hst0;clear hst0;have Hhk0:=qh hk0;clear hk0;go_wp2_with (first|(at_builtin;refine wpList_append_lies _ rfl _ _ _ rfl _ 57 i0 (.agg #[.int .i64 0,.int .i64 0]) 2 16 Tryz.underlying23 hi.out Hhz0.out Hhz1.out Hhz2.out rfl (by omega) _ E.length _ rfl HR.out ⟨wq.heap.size,0,none⟩ 1 1 [.int .i64 3,.int .i64 (ck:Int)] rfl rfl (World.news_of_block (HSa.out.box 1 rfl)) Zdm (by omega) (by unfold maxLen;omega) (by omega) HSa.out.size _ rfl ?_;intro g7 c7 w7 hown hgrow hat hlt';have HS7:=qh ((HSa.out.app 0 rfl hown hgrow hat).pick [0] (by decide));clear hown hgrow hat hlt';have HSb:=qh (HS7.out.alloc w7.heap.size rfl #[.int .i64 4,.int .i64 0] 57);have HR2:=qh (HSb.out.row 0 rfl))|(at_builtin;refine wpList_append_lies _ rfl _ _ _ rfl _ 57 i0 (.agg #[.int .i64 0,.int .i64 0]) 2 16 Tryz.underlying23 hi.out Hhz0.out Hhz1.out Hhz2.out rfl (by omega) _ (E.length+1) _ rfl HR2.out ⟨w7.heap.size,0,none⟩ 1 1 [.int .i64 4,.int .i64 0] rfl rfl (World.news_of_block (HSb.out.box 1 rfl)) Zdm (by omega) (by unfold maxLen;omega) (by omega) HSb.out.size _ rfl ?_;intro g8 c8 w8 hown hgrow hat hlt';have HS8:=qh ((HSb.out.app 0 rfl hown hgrow hat).pick [0] (by decide));clear hown hgrow hat hlt'));go_roundw
    case rel =>refine⟨k+1,c8,some ⟨g8,0,none⟩,by go_num,by rw[Hhst0.out,List.length_append,List.length_append];rfl,by omega,?_⟩;rw[Hhst0.out,List.length_append,List.length_append,List.flatMap_append,List.flatMap_append];exact HS8.out
    case measure=>simp[intOf]<;>omega
   have hlI:¬ (k:Int)<(n:Int):=by omega
   have hkn2:k=n:=by omega
   have hEn:wxK l n=E:=by rw[hE,hkn2]
   by_cases h0:n=0
   ·have he:(txB l).toList.isEmpty=true:=by
     rw[Hemp.out];cases hll:l with
     | nil=>rfl
     | cons x xs=>have:=Hhn.out;rw[hll] at this;simp at this;omega
    have hE0:E=[]:=by rw[hE,hkn2,h0];rfl
    subst hE0;have HSa:=qh (hS.alloc wq.heap.size rfl #[.int .i64 2,.int .i64 0] 57);have HR:=qh (HSa.out.row 0 rfl);replace hE:=qh hE;have Hhkn2:=qh hkn2;clear hkn2;have HhEn:=qh hEn;clear hEn;replace h0:=qh h0;clear hS;go_wp2_with (at_builtin;refine wpList_append_lies _ rfl _ _ _ rfl _ 57 i0 (.agg #[.int .i64 0,.int .i64 0]) 2 16 Tryz.underlying23 hi.out Hhz0.out Hhz1.out Hhz2.out rfl (by omega) _ ([]:List (Int × Int)).length _ rfl HR.out ⟨wq.heap.size,0,none⟩ 1 1 [.int .i64 2,.int .i64 0] rfl rfl (World.news_of_block (HSa.out.box 1 rfl)) Zdm (by omega) (by unfold maxLen;omega) (by omega) HSa.out.size _ rfl ?_;intro g7 c7 w7 hown hgrow hat hlt';have HS7:=qh ((HSa.out.app 0 rfl hown hgrow hat).pick [0] (by decide));clear hown hgrow hat hlt');go_ret;have hq:=HQ.out;rw[if_pos h0.out] at hq;rw[hq];exact⟨some ⟨g7,0,none⟩,c7,rfl,HS7.out⟩
   have he:(txB l).toList.isEmpty=false:=by
    rw[Hemp.out];cases hll:l with
    | nil=>have:=Hhn.out;rw[hll] at this;exact absurd this.symm h0
    | cons x xs=>rfl
   have HS:=qh hS;replace hE:=qh hE;have Hhkn2:=qh hkn2;clear hkn2;have HhEn:=qh hEn;clear hEn;replace h0:=qh h0;clear hS;go_wp2;go_ret;have hq:=HQ.out;rw[if_neg h0.out,HhEn.out] at hq;rw[hq];exact⟨a,c,rfl,HS.out⟩
def strC (ls:List (List Nat)):List Value:=ls.map fun l => .string (txB l)
def Txts (w:World) (v:Value) (ls:List (List Nat)):Prop:=Sl 0 w v ls.length 1 (strC ls)
def okTs (ls:List (List Nat)):Prop:=ls.length≤10∧∀ l∈ls,isT l∧l.length≤10
theorem Txts.below {w w':World} {v:Value} {ls:List (List Nat)} (h:Txts w v ls) (he:Below w.heap.size w w'):Txts w' v ls:=Sl.below h he
theorem Txts.form {w:World} {v:Value} {ls:List (List Nat)} (h:Txts w v ls):∃ a cap,v = .slice a ls.length cap∧ls.length≤cap∧cap≤9223372036854775807 ∧
  (0<ls.length→∃ b off,a=some ⟨b,off,none⟩∧b<w.heap.size∧∀ j,j<ls.length→w.cell? ⟨b,off+j,none⟩=some (.string (txB (ls.getD j [])))):=by
 obtain⟨hl,a,cap,hv,h1,h2,h3⟩:=h;refine⟨a,cap,hv,h1,h2,fun hn => ?_⟩;obtain⟨b,off,ha,hb,hlt,hc⟩:=h3 hn;refine⟨b,off,ha,hlt,fun j hj => ?_⟩;rw[hc j (by omega)];simp[strC,hj]
theorem memT {ls:List (List Nat)} {k:Nat} (hk:k<ls.length):ls.getD k []∈ls:=by rw[List.getD_eq_getElem?_getD,List.getElem?_eq_getElem hk];exact List.getElem_mem _
def wsR (ls:List (List Nat)):List (Int × Int):=if wsOk ls=true then wsP ls ls.length else []
def RWs (ls:List (List Nat)) (w:World) (e:Ending) (w':World):Prop:=∃ a c,e = .returned (.tuple #[.slice a (wsR ls).length c,.bool (wsOk ls)])∧St w w' [Ent.row 57 2 (.slice a (wsR ls).length c) (wsR ls).length ((wsR ls).flatMap Zag)]
theorem Znv {ls:List (List Nat)} (h:wsOk ls=false) {w w':World} {a:Option Addr} {c:Nat} (hS:St w w' [Ent.row 57 2 (.slice a 0 c) 0 []]):RWs ls w (.returned (.tuple #[.slice a 0 c,.bool false])) w':=by unfold RWs wsR;rw[h];exact⟨a,c,rfl,hS⟩
theorem ZnO {ls:List (List Nat)} (h:wsOk ls=true) {E:List (Int × Int)} (hE:E=wsP ls ls.length) {w w':World} {a:Option Addr} {c:Nat} (hS:St w w' [Ent.row 57 2 (.slice a E.length c) E.length (E.flatMap Zag)]):RWs ls w (.returned (.tuple #[.slice a E.length c,.bool true])) w':=by subst hE;unfold RWs wsR;rw[h];exact⟨a,c,rfl,hS⟩
theorem ZnK {ls:List (List Nat)} (h:∀ k,k<ls.length→wdOk (ls.getD k [])=true∧(wsP ls (k+1)).length≤60):wsOk ls=true:=by unfold wsOk;rw[List.all_eq_true];intro k hk;rw[Bool.and_eq_true,decide_eq_true_eq];exact h k (List.mem_range.1 hk)
theorem Zmu {l:List Nat} (h:wdOk l=true):1≤(Zby l).length∧(Zby l).length≤16:=ZjR h
theorem Zed (ls:List (List Nat)) (v:Value) (w:World) (hok:okTs ls) (h1:Txts w v ls) :
  Calls Tryz.prog 116 #[v] w fun e w'=>RWs ls w e w':=by
 obtain⟨a1,c1,rfl,hc1,hm1,hr1⟩:=h1.form;have hn10:=hok.1;obtain⟨i0,hi,hz0,hz1,hz2⟩:=info_parts Tryz.infoPart2;obtain⟨n,hn⟩:=eJ (ls.length);rw[hn] at hc1 hr1 hn10;rw[hn];have HS0:=qh (((St.start w).alloc w.heap.size rfl #[.int .i64 1,.int .i64 0] 57).boxrow 0 1 2 [.int .i64 1,.int .i64 0] rfl rfl (by unfold maxLen;omega));have Hr1:=qh hr1;replace hi:=qh hi;have Hhz0:=qh hz0;clear hz0;have Hhz1:=qh hz1;clear hz1;have Hhz2:=qh hz2;clear hz2;have Hhn:=qh hn;clear hn;have Hhok:=qh hok;clear hok;clear hr1 h1
 go_enter Tryz.func116, Tryz.ntmps116
 go_wp2_with fail
 go_loopw [4,5] (fun ev iv wr=>∃ (k c:Nat) (a:Option Addr) (E:List (Int × Int)),iv = .int .i64 (k:Int)∧ev = .slice a E.length c∧E=wsP ls k∧E.length≤60∧k≤n∧(∀ j,j<k→wdOk (ls.getD j [])=true∧(wsP ls (j+1)).length≤60)∧St w wr [Ent.row 57 2 (.slice a E.length c) E.length (E.flatMap Zag)]) (fun _ iv _=>n-(intOf iv).toNat)
 case atStart=>exact⟨0,1,_,[(1,0)],rfl,rfl,rfl,by decide,by omega,fun j hj=>by omega,HS0.out⟩
 case round =>
  obtain⟨k,c,a,E,rfl,rfl,hE,hEl,hk,hall,hS⟩:=hrel;have HS1:=qh hS;have Hall:=qh hall;clear hS hall HS0;by_cases hkn:k<n
  ·have hkI:(k:Int)<(n:Int):=by omega
   have hwk:IntKind.i64.wrap ((k:Int)+1)=(k:Int)+1:=IntWalk.i64_in _ (by omega);obtain⟨b1,o1,rfl,hbl1,hcs1⟩:=Hr1.out (by omega);have q0:=(bcell HS1.out.bel b1 _ hbl1).trans (hcs1 k hkn);have hxt:=Hhok.out.2 _ (memT (show k<ls.length by have:=Hhn.out;omega));obtain⟨lx,hlx⟩:=eI (ls.getD k []);rw[← hlx] at q0 hxt;have hx:=fun u=>ZeM lx u hxt.1 (by omega)
   obtain⟨F,hF⟩:=eJ (Zby lx);rw[hF] at hx;have Hx:=qh hx;replace hE:=qh hE;have HhF:=qh hF;clear hF;have Hhlx:=qh hlx;clear hlx;have Hhxt:=qh hxt;clear hxt;clear hx hcs1;cases hwx:wdOk lx with
   | false =>
    have hF0:=ZjS hwx;rw[HhF.out] at hF0;subst hF0;have hno:wsOk ls=false:=Zi7 (k:=k) (by have:=Hhn.out;omega) fun h=>by have:=h.1;rw[← Hhlx.out,hwx] at this;cases this
    have Hhwx:=qh hwx;clear hwx;have Hhno:=qh hno;clear hno
    as_aux_lemma =>
    go_wp2_with (go_at_call 164;refine(Hx.out _).mono ?_;rintro e w2 ⟨a2,c2,rfl,hSx⟩;have HS2:=qh (((HS1.out.cat hSx).pick [] (by decide)).newRow0 57 2);clear hSx)
    go_ret2
    exact Znv Hhno.out HS2.out
   | true =>
    have hw1:=Zmu hwx;rw[HhF.out] at hw1;have hF1:¬ (F.length:Int)=0:=by omega
    have hF16:F.length≤100:=by omega
    have hwx2:wdOk (ls.getD k [])=true:=by rw[← Hhlx.out];exact hwx
    have Hhwx:=qh hwx;clear hwx;have Hhwx2:=qh hwx2;clear hwx2;by_cases hk0:k=0
    ·subst hk0;rw[Nat.add_zero] at q0;have h1E:=ZnJ ls;rw[← Hhlx.out,HhF.out] at h1E;replace h1E:=qh h1E;have hgI:¬ (60:Int)<(F.length:Int):=by omega
     as_aux_lemma =>
     go_wp2_with (go_at_call 164;refine(Hx.out _).mono ?_;rintro e w2 ⟨a2,c2,rfl,hSx⟩;have HS2:=qh ((HS1.out.cat hSx).pick [1] (by decide));clear hSx);go_roundw
     case rel=>exact⟨1,c2,a2,F,by go_num,rfl,h1E.out.symm,by omega,by omega,fun j hj=>by (obtain rfl:j=0:=by omega);exact⟨Hhwx2.out,by rw[h1E.out];omega⟩,HS2.out⟩
     case measure=>simp[intOf]<;>omega
    have hk0I:¬ (k:Int)=0:=by omega
    have hst:=Zmt (ls:=ls) (k:=k) (by omega);rw[← Hhlx.out,HhF.out,← hE.out] at hst;obtain⟨G,hG⟩:=eI (E++F++[(5,0)]);have hGl:(E.length+F.length+1)=G.length:=by rw[hG];simp;omega
    have hGc:E.flatMap Zag++F.flatMap Zag++[.int .i64 5,.int .i64 0]=G.flatMap Zag:=by rw[hG,List.flatMap_append,List.flatMap_append];rfl
    rw[← hG] at hst;have Hst:=qh hst;have HhGl:=qh hGl;clear hGl;have HhGc:=qh hGc;clear hGc;clear hG hst;have hap:=True.intro;by_cases hg:60<G.length
    ·have hgI:(60:Int)<(G.length:Int):=by omega
     have hno:wsOk ls=false:=Zi7 (k:=k) (by have:=Hhn.out;omega) fun h=>by have:=h.2;rw[Hst.out] at this;omega
     have Hhno:=qh hno;clear hno
     go_wp2_with (first
      | (go_at_call 164;refine(Hx.out _).mono ?_;rintro e w2 ⟨a2,c2,rfl,hSx⟩;have HS2:=qh (HS1.out.cat hSx);clear hSx)
      | (at_builtin;refine Zal _ rfl _ _ _ rfl _ 57 i0 (.agg #[.int .i64 0,.int .i64 0]) 2 16 Tryz.underlying23 hi.out Hhz0.out Hhz1.out Hhz2.out rfl (by omega) _ E.length _ rfl (HS2.out.row 0 rfl) _ F.length (F.flatMap Zag) rfl (ZaG (HS2.out.row 1 rfl)) Zgr (by unfold maxLen;omega) (by omega) HS2.out.size ?_;intro a5 c5 w5 hown hgrow hat;have hS:=(HS2.out.appS 0 rfl hown hgrow hat).pick [0] (by decide);have HS5:=qh hS;clear hown hgrow hat hS)
      | (at_builtin;have HS9:=qh ((HS5.out.alloc _ rfl #[.int .i64 5,.int .i64 0] 57).boxrow 1 1 2 [.int .i64 5,.int .i64 0] rfl rfl (by unfold maxLen;omega));refine Zal _ rfl _ _ _ rfl _ 57 i0 (.agg #[.int .i64 0,.int .i64 0]) 2 16 Tryz.underlying23 hi.out Hhz0.out Hhz1.out Hhz2.out rfl (by omega) _ (E.length+F.length) _ rfl (HS9.out.row 0 rfl) _ 1 [.int .i64 5,.int .i64 0] rfl ((Zaa (HS9.out.row 1 rfl)).sl (by omega) |>.mono (Nat.zero_le _)) Zdm (by unfold maxLen;omega) (by omega) HS9.out.size ?_;intro a7 c7 w7 hown hgrow hat;have hS:=(HS9.out.appS 0 rfl hown hgrow hat).pick [0] (by decide);rw[HhGl.out] at hS ⊢;rw[HhGc.out] at hS;have HS7:=qh hS;clear hown hgrow hat hS;have HS8:=qh ((HS7.out.pick [] (by decide)).newRow0 57 2)))
     go_ret2
     exact Znv Hhno.out HS8.out
    have hgI:¬ (60:Int)<(G.length:Int):=by omega
    go_wp2_with (first
     | (go_at_call 164;refine(Hx.out _).mono ?_;rintro e w2 ⟨a2,c2,rfl,hSx⟩;have HS2:=qh (HS1.out.cat hSx);clear hSx)
     | (at_builtin;refine Zal _ rfl _ _ _ rfl _ 57 i0 (.agg #[.int .i64 0,.int .i64 0]) 2 16 Tryz.underlying23 hi.out Hhz0.out Hhz1.out Hhz2.out rfl (by omega) _ E.length _ rfl (HS2.out.row 0 rfl) _ F.length (F.flatMap Zag) rfl (ZaG (HS2.out.row 1 rfl)) Zgr (by unfold maxLen;omega) (by omega) HS2.out.size ?_;intro a5 c5 w5 hown hgrow hat;have hS:=(HS2.out.appS 0 rfl hown hgrow hat).pick [0] (by decide);have HS5:=qh hS;clear hown hgrow hat hS)
     | (at_builtin;have HS9:=qh ((HS5.out.alloc _ rfl #[.int .i64 5,.int .i64 0] 57).boxrow 1 1 2 [.int .i64 5,.int .i64 0] rfl rfl (by unfold maxLen;omega));refine Zal _ rfl _ _ _ rfl _ 57 i0 (.agg #[.int .i64 0,.int .i64 0]) 2 16 Tryz.underlying23 hi.out Hhz0.out Hhz1.out Hhz2.out rfl (by omega) _ (E.length+F.length) _ rfl (HS9.out.row 0 rfl) _ 1 [.int .i64 5,.int .i64 0] rfl ((Zaa (HS9.out.row 1 rfl)).sl (by omega) |>.mono (Nat.zero_le _)) Zdm (by unfold maxLen;omega) (by omega) HS9.out.size ?_;intro a7 c7 w7 hown hgrow hat;have hS:=(HS9.out.appS 0 rfl hown hgrow hat).pick [0] (by decide);rw[HhGl.out] at hS ⊢;rw[HhGc.out] at hS;have HS7:=qh hS;clear hown hgrow hat hS))
    go_roundw
    case rel =>
     refine⟨k+1,c7,a7,G,by go_num,rfl,Hst.out.symm,by omega,by omega,fun j hj => ?_,HS7.out⟩;by_cases hjk:j<k
     ·exact Hall.out j hjk
     obtain rfl:j=k:=by omega
     exact⟨Hhwx2.out,by rw[Hst.out];omega⟩
    case measure=>simp[intOf]<;>omega
  obtain rfl:k=n:=by omega
  have hkI:¬ (k:Int)<(k:Int):=by omega
  have hyes:wsOk ls=true:=ZnK fun j hj=>Hall.out j (by have:=Hhn.out;omega)
  have hEn:E=wsP ls ls.length:=by rw[hE,Hhn.out]
  have Hhyes:=qh hyes;clear hyes;have HhEn:=qh hEn;clear hEn;clear hE;go_wp2
  go_ret2
  exact ZnO Hhyes.out HhEn.out HS1.out
end Go.Proofs.YtfikabecgaappaaGreat
