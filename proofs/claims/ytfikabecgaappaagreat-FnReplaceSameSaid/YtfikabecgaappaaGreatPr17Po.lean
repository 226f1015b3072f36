/-
  A queue: a slice of the call's own whose head moves on, 'q = q[1:]', and that grows, 'q = append(q, x)'. Elements of one cell.
  No condition: this text speaks of no program.
-/
import Derived.Test.YtfikabecgaappaaGreatPr05Lp
import Derived.Test.YtfikabecgaappaaGreatPr16Jw
namespace Go.Proofs.YtfikabecgaappaaGreat
open Go.RowKit
def Qs (lo:Nat) (w:World) (e:TypeId) (v:Value) (xs:List Value):Prop :=
 ∃ g off cap cur,v = .slice (some ⟨g,off,none⟩) xs.length cap∧lo≤g∧w.heap[g]? = some (.cells cur e (0,0))∧xs.length≤cap∧cap≤maxLen∧off+cap≤cur.size∧∀ j,j<xs.length→cur[off+j]? = xs[j]?
theorem Qs.obj {lo:Nat} {w:World} {e:TypeId} {v:Value} {xs:List Value} (h:Qs lo w e v xs) {k:Nat} (hk:v.ownBlock=some k):∃ cur,w.heap[k]? = some (.cells cur e (0,0)):=by
 obtain⟨g,off,cap,cur,rfl,_,hg,_⟩:=h;have:g=k:=by simpa [Value.ownBlock] using hk
 subst this;exact⟨cur,hg⟩
theorem Qs.kept {lo:Nat} {w w':World} {e:TypeId} {v:Value} {xs:List Value} (h:Qs lo w e v xs) (hk:∀ k,v.ownBlock=some k→w'.heap[k]? = w.heap[k]?):Qs lo w' e v xs:=by obtain⟨g,off,cap,cur,rfl,h1,hg,h2⟩:=h;exact⟨g,off,cap,cur,rfl,h1,(hk g rfl).trans hg,h2⟩
theorem Qs.grown {lo:Nat} {w w':World} {e:TypeId} {v:Value} {xs:List Value} {row:Option Nat} (h:Qs lo w e v xs) (hg:w.grownBy w' row) (ha:ZbQ w row e):Qs lo w' e v xs :=
 h.kept fun k hk=>by obtain⟨cur,hc⟩:=h.obj hk;exact hg.block k (Array.getElem?_eq_some_iff.1 hc).1 fun hr=>ha k hr.symm _ _ hc
theorem Qs.below {lo:Nat} {w w':World} {e:TypeId} {v:Value} {xs:List Value} (h:Qs lo w e v xs) (hb:Below w.heap.size w w'):Qs lo w' e v xs :=
 h.kept fun k hk=>by obtain⟨cur,hc⟩:=h.obj hk;exact hb.block k (Array.getElem?_eq_some_iff.1 hc).1
theorem Qs.form {lo:Nat} {w:World} {e:TypeId} {v:Value} {xs:List Value} (h:Qs lo w e v xs):∃ g off cap,v = .slice (some ⟨g,off,none⟩) xs.length cap∧lo≤g∧g<w.heap.size∧xs.length≤cap∧cap≤9223372036854775807∧∀ j,j<xs.length→w.cell? ⟨g,off+j,none⟩=xs[j]?:=by obtain⟨g,off,cap,cur,rfl,h1,hg,h2,h3,h4,h5⟩:=h;exact⟨g,off,cap,rfl,h1,(Array.getElem?_eq_some_iff.1 hg).1,h2,h3,fun j hj=>(cell_of_row w g _ cur e (0,0) hg).trans (h5 j hj)⟩
theorem Qs.lo {lo:Nat} {w:World} {e:TypeId} {v:Value} {xs:List Value} (h:Qs lo w e v xs) {k:Nat} (hk:v.ownBlock=some k):lo≤k:=by
 obtain⟨g,off,cap,cur,rfl,h1,_⟩:=h;have:g=k:=by simpa [Value.ownBlock] using hk
 omega
theorem Qs.append {P:Program} {lo:Nat} {w:World} {e:TypeId} {v:Value} {xs:List Value} (h:Qs lo w e v xs) (t ty:TypeId) (i:TypeInfo) (z:Value) (bytes:Nat) (ht:P.underlying t=some (.slice e)) (hi:P.info? e=some i) (hz:i.zero=some z) (hsize:i.size=1) (hby:i.bytes=bytes) (hzs:z.cells.size=1)
  (ad:Addr) (c:Nat) (x:Value) (hx:w.cell? ad=some x) (had:ad.add 0=ad) (h1:x.oneCell'=true) (h63:xs.length+1≤1000000) (hb:bytes≤100) (hlo:lo≤w.heap.size) :
  ∃ v' w',(Builtin.append_ #[t,t] ty #[v,.slice (some ad) 1 c]).run P w = .ok v' w'∧Qs lo w' e v' (xs++[x])∧w.grownBy w' v.ownBlock:=by
 obtain⟨g,off,cap,cur,rfl,hg0,hg,h2,h3,h4,h5⟩:=h
 have hnews:∀ j u,[x][j]? = some u→w.cell? (ad.add j)=some u:=fun j u hu=>by
  cases j with
  | zero=>simp at hu;subst hu;rw[had];exact hx
  | succ j=>simp at hu
 by_cases hroom:xs.length+1≤cap
 ·have hf:=run_firstCells_some (P:=P) w i.size 1 ad 1 c [x] (by simp[hsize]) hnews;have hst:=run_storeCells_at P g (off+xs.length) e [x] 0 cur w hg (by simp;omega) (by simpa using h1);have hadd:(⟨g,off,none⟩:Addr).add xs.length=⟨g,off+xs.length,none⟩:=by unfold Addr.add;split<;>simp_all
  simp only[Nat.add_zero,List.length_singleton] at hst;rw[hsize] at hf;have hcl:off+xs.length<cur.toList.length:=by simp;omega
  have ht1:(List.take (off+xs.length) cur.toList).length=off+xs.length:=by rw[List.length_take];omega
  obtain⟨cs,hcs⟩:∃ cs:Array Value,cs=(List.take (off+xs.length) cur.toList++[x]++List.drop (off+xs.length+1) cur.toList).toArray:=⟨_,rfl⟩;rw[← hcs] at hst;have hrow:=setRow_heap w g cur cs e (0,0) hg;refine⟨.slice (some ⟨g,off,none⟩) (xs.length+1) cap,w.setRow g cs,by simp[Builtin.append_,run_underlying ht,sizeOf,typeInfo,hi,hsize,Builtin.lenOf,hroom,hf,hadd,hst],?_,?_⟩
  ·refine⟨g,off,cap,cs,by simp,hg0,hrow,by simpa using hroom,h3,?_,fun j hj => ?_⟩
   ·rw[hcs];simp only[List.size_toArray,List.length_append,List.length_singleton,List.length_drop,ht1,Array.length_toList];omega
   simp only[List.length_append,List.length_singleton] at hj;rw[hcs];simp only[List.getElem?_toArray];by_cases hjn:j<xs.length
   ·rw[List.append_assoc,List.getElem?_append_left (by omega),List.getElem?_append_left hjn,List.getElem?_take,if_pos (by omega),Array.getElem?_toList];exact h5 j hjn
   obtain rfl:j=xs.length:=by omega
   rw[List.append_assoc,List.getElem?_append_right (by omega),ht1];simp
  exact⟨rfl,rfl,rfl,by simp,fun k _ hk=>setRow_other w g k cs (fun e=>hk (by rw[e];rfl))⟩
 have hgr:=run_append_grow (P:=P) w t ty e i z ht hi hz ⟨g,off,none⟩ xs.length cap xs (by rw[hsize];omega)
  (fun j u hu=>by
   have hj:j<xs.length:=(List.getElem?_eq_some_iff.1 hu).1;have hadd:(⟨g,off,none⟩:Addr).add j=⟨g,off+j,none⟩:=by unfold Addr.add;split<;>simp_all
   rw[hadd,cell_of_row w g _ cur e (0,0) hg,h5 j hj,hu]) ad 1 c [x] (by simp[hsize]) hnews (by omega) (by omega)
  (by have:=nextslicecap_le_wide (need:=xs.length+1) (old:=cap) (by omega);have hm:=Nat.mul_le_mul this (show i.bytes≤100 by omega);omega)
 have hcm:=grownCap_le_maxLen w (xs.length+1) cap e (by unfold maxLen;omega);have hge:=grownCap_ge w (xs.length+1) cap e;have hnew:=heap_alloc_new w.drew (.cells (xs.toArray++[x].toArray++Builtin.zeroCells z.cells (grownCap w (xs.length+1) cap e-(xs.length+1))) e);refine⟨_,_,hgr,⟨w.heap.size,0,_,_,by simp,hlo,hnew,by simpa using hge,hcm,?_,fun j hj => ?_⟩,?_⟩
 ·simp[size_zeroCells,hzs];omega
 ·simp only[Nat.zero_add];rw[← List.getElem?_toArray];have:(xs++[x]).toArray=xs.toArray++[x].toArray:=by simp
  rw[this,Array.getElem?_append_left (by simpa using hj)]
 exact⟨rfl,rfl,rfl,by simp[World.alloc],fun k hk _=>Below.heap_alloc w.drew _ k hk⟩
def wdB (l:List Nat):ByteArray:=⟨(l.map fun c=>UInt8.ofNat (97+c)).toArray⟩
abbrev wdCells (ws:List (List Nat)):List Value:=ws.map fun l=>Value.string (wdB l)
def knows (n:Nat) (s:Bs Int) (cs:List Value):Prop:=cs.length=n∧∀ j,j<s.met.length→cs[(s.met.getD j 0).toNat]? = some (.string (wdB (s.words.getD j [])))
def marks (n:Nat) (s:Bs Int) (bs:List Value):Prop:=bs.length=n∧∀ x:Nat,x<n→bs[x]? = some (.bool (decide ((x:Int)∈s.met)))
structure FwW (d:DfaD) (W0 bw bs:Nat) (bx:Array Value) (w:World) (s:Bs Int) (k:Nat) (vq:Value):Prop where
 wo:∃ cs,w.ownsRow W0 9 1 (.slice (some ⟨bw,0,none⟩) d.next.length d.next.length) d.next.length cs∧knows d.next.length s cs
 se:∃ ms,w.ownsRow W0 4 1 (.slice (some ⟨bs,0,none⟩) d.next.length d.next.length) d.next.length ms∧marks d.next.length s ms
 qu:Qs W0 w 3 vq ((s.met.drop k).map (Value.int .i64))
 bx:Bx w W0 bx 37
theorem FwW.below {d:DfaD} {W0 bw bs k:Nat} {bx:Array Value} {w w':World} {s:Bs Int} {vq:Value} (h:FwW d W0 bw bs bx w s k vq) (hb:Below w.heap.size w w'):FwW d W0 bw bs bx w' s k vq:=by obtain⟨⟨cs,h1,h2⟩,⟨ms,h3,h4⟩,h5,h6⟩:=h;exact⟨⟨cs,(Own.below (Zaa h1) hb).1,h2⟩,⟨ms,(Own.below (Zaa h3) hb).1,h4⟩,h5.below hb,h6.below hb h6.lt⟩
theorem FwW.cells {d:DfaD} {W0 bw bs k:Nat} {bx:Array Value} {w:World} {s:Bs Int} {vq:Value} (h:FwW d W0 bw bs bx w s k vq) {x:Nat} (hxn:x<d.next.length):(∃ u,w.cell? ⟨bw,x,none⟩=some u)∧w.frozen? ⟨bw,x,none⟩=false∧w.frozen? ⟨bs,x,none⟩=false:=by obtain⟨⟨cs,h1,h2⟩,⟨ms,h3,h4⟩,_⟩:=h;exact⟨ZcM h1 x (by omega),h1.frozenAt x,h3.frozenAt x⟩
theorem FwW.lt {d:DfaD} {W0 bw bs k:Nat} {bx:Array Value} {w:World} {s:Bs Int} {vq:Value} (h:FwW d W0 bw bs bx w s k vq):W0≤bw∧W0≤bs∧bw<w.heap.size∧bs<w.heap.size∧bw≠bs∧W0≠bw∧W0≠bs:=by
 obtain⟨⟨cs,h1,h2⟩,⟨ms,h3,h4⟩,_,h6⟩:=h;refine⟨(h1.lt bw rfl).1,(h3.lt bs rfl).1,(h1.lt bw rfl).2,(h3.lt bs rfl).2,?_,?_,?_⟩
 ·intro e;obtain⟨cu,hcu⟩:=ZaP (k:=bs) h3 rfl;exact Zak (e':=4) h1 (by decide) bs (by rw[e];rfl) _ _ hcu
 ·intro e;exact Zak (e':=37) h1 (by decide) bw rfl _ _ (by rw[← e];exact h6)
 intro e;exact Zak (e':=37) h3 (by decide) bs rfl _ _ (by rw[← e];exact h6)
theorem FwW.q2 {d:DfaD} {W0 bw bs k:Nat} {bx:Array Value} {w w4 w5:World} {s:Bs Int} {vq:Value} (h:FwW d W0 bw bs bx w s k vq) (x:Nat) {u v:Value} (_:bw≠bs)
  (h5:w5=(w4.setCell ⟨bw,x,none⟩ u).drew) (h4:w4=w.setCell ⟨bs,x,none⟩ v):Qs W0 w5 3 vq ((s.met.drop k).map (Value.int .i64)):=by
 obtain⟨⟨cs,h1,h2⟩,⟨ms,h3,h4'⟩,hq,h6⟩:=h;subst h4;subst h5;have a1:(w.setCell ⟨bs,x,none⟩ v).ownsRow W0 9 1 (.slice (some ⟨bw,0,none⟩) d.next.length d.next.length) d.next.length cs:=Zaf h1 (ZaC w bs x _) (fun k hk=>by cases hk;exact Zak (e':=9) h3 (by decide) bs rfl);exact((hq.grown (ZaC w bs x v) (fun k hk=>by cases hk;exact Zak (e':=3) h3 (by decide) bs rfl)).grown (ZaC (w.setCell ⟨bs,x,none⟩ v) bw x u) (fun k hk=>by cases hk;exact Zak (e':=3) a1 (by decide) bw rfl)).below (Below.refl _ _).drew
end Go.Proofs.YtfikabecgaappaaGreat
namespace Go.Proofs.YtfikabecgaappaaGreat
open Go.RowKit Go.Maps
def hitK (K:Nat) (a b:DfaD):Option (List Nat):=Zhl (ZbP (fun x y=>x != y) a b) (bat (Zav a b) (0,0) K)
def ZnT:Nat:=1600
def hitP (a b:DfaD):Option (List Nat):=hitK ZnT a b
end Go.Proofs.YtfikabecgaappaaGreat
namespace Go.Proofs.YtfikabecgaappaaGreat
open Go.RowKit
section
variable {α β:Type} [DecidableEq α] [DecidableEq β] {nx:α→Nat→α} {nx':β→Nat→β} {a:α} {f:α→β}
theorem Zkp (hf:∀ x y,f x=f y→x=y) (hn:∀ x c,f (nx x c)=nx' (f x) c) (x:α) (wd:List Nat) (s:Bs α) (c:Nat):bvisit nx' (f x) wd ⟨s.met.map f,s.words⟩ c=⟨(bvisit nx x wd s c).met.map f,(bvisit nx x wd s c).words⟩:=by
 have hm:nx' (f x) c∈s.met.map f↔nx x c∈s.met:=by
  rw[← hn];constructor
  ·intro h;obtain⟨y,hy,e⟩:=List.mem_map.1 h;rw[← hf _ _ e];exact hy
  exact fun h=>List.mem_map.2 ⟨_,h,rfl⟩
 unfold bvisit;by_cases h:nx x c∈s.met
 ·rw[if_pos h,if_pos (hm.2 h)]
 rw[if_neg h,if_neg (fun h2=>h (hm.1 h2))];simp[hn]
theorem ZjJ (hf:∀ x y,f x=f y→x=y) (hn:∀ x c,f (nx x c)=nx' (f x) c) (x:α) (wd:List Nat) (s:Bs α):∀ n,brow nx' (f x) wd ⟨s.met.map f,s.words⟩ n=⟨(brow nx x wd s n).met.map f,(brow nx x wd s n).words⟩
 | 0=>rfl
 | n+1=>by show bvisit nx' (f x) wd (brow nx' (f x) wd ⟨s.met.map f,s.words⟩ n) n=_;rw[ZjJ hf hn x wd s n,Zkp hf hn];rfl
theorem Zi2 (hf:∀ x y,f x=f y→x=y) (hn:∀ x c,f (nx x c)=nx' (f x) c):∀ k,bat nx' (f a) k=⟨(bat nx a k).met.map f,(bat nx a k).words⟩
 | 0=>rfl
 | k+1=>by
  have ih:=Zi2 hf hn k;have hl:(bat nx' (f a) k).met.length=(bat nx a k).met.length:=by rw[ih];simp
  by_cases h:k<(bat nx a k).met.length
  ·rw[ZaH h,ZaH (by rw[hl];exact h)];unfold bpart;rw[ih];have hx:((bat nx a k).met.map f).getD k (f a)=f ((bat nx a k).met.getD k a):=by simp[h]
   simp only[hx];exact ZjJ hf hn _ _ _ 3
  rw[Zbi (by omega),Zbi (by omega),ih]
theorem Zmk (k:Nat):∀ i,i<(bat nx a k).met.length→((bat nx a k).words.getD i []).foldl nx a=(bat nx a k).met.getD i a∧isW ((bat nx a k).words.getD i []):=by
 have h:=Zex (nx:=nx) (a:=a) (fun s=>s.words.length=s.met.length∧∀ i,i<s.met.length→(s.words.getD i []).foldl nx a=s.met.getD i a∧isW (s.words.getD i [])) ⟨rfl,fun i hi=>by
  obtain rfl:i=0:=by simpa using hi
  exact⟨rfl,fun c hc=>by simp at hc⟩⟩ (fun s k hk t c hc hs ht=>by
   unfold bvisit
   split
   ·exact ht
   refine⟨by simp[ht.1],fun i hi => ?_⟩;simp only[List.length_append,List.length_singleton] at hi;by_cases hit:i<t.met.length
   ·have h1:=ht.2 i hit;have e1:(t.words++[s.words.getD k []++[c]]).getD i []=t.words.getD i []:=by simp only[List.getD_eq_getElem?_getD];rw[List.getElem?_append_left (by rw[ht.1];exact hit)]
    have e2:(t.met++[nx (s.met.getD k a) c]).getD i a=t.met.getD i a:=by simp only[List.getD_eq_getElem?_getD];rw[List.getElem?_append_left hit]
    show((t.words++[s.words.getD k []++[c]]).getD i []).foldl nx a=(t.met++[nx (s.met.getD k a) c]).getD i a∧isW ((t.words++[s.words.getD k []++[c]]).getD i []);rw[e1,e2];exact h1
   obtain rfl:i=t.met.length:=by omega
   have h2:=hs.2 k hk;have e1:(t.words++[s.words.getD k []++[c]]).getD t.met.length []=s.words.getD k []++[c]:=by simp[← ht.1]
   have e2:(t.met++[nx (s.met.getD k a) c]).getD t.met.length a=nx (s.met.getD k a) c:=by simp
   show((t.words++[s.words.getD k []++[c]]).getD t.met.length []).foldl nx a=(t.met++[nx (s.met.getD k a) c]).getD t.met.length a∧isW ((t.words++[s.words.getD k []++[c]]).getD t.met.length []);rw[e1,e2,List.foldl_append,h2.1];exact⟨rfl,Zdo h2.2 (ZiU hc)⟩) k
 exact h.2
end
theorem ZdZ {α:Type} {en:α→Bool} {s:Bs α} {w:List Nat} {d:α} (hl:s.words.length=s.met.length) (h:Zhl en s=some w):∃ i,i<s.met.length∧s.words.getD i []=w∧en (s.met.getD i d)=true:=by
 unfold Zhl at h;rw[Option.map_eq_some_iff] at h;obtain⟨p,hp,rfl⟩:=h;obtain⟨h1,i,hi,hpi,-⟩:=List.find?_eq_some_iff_getElem.1 hp;rw[List.length_zip] at hi;have him:i<s.met.length:=by omega
 have hiw:i<s.words.length:=by omega
 rw[List.getElem_zip] at hpi;refine⟨i,him,?_,?_⟩
 ·rw[Za1 hiw,← hpi]
 rw[Za1 him];rw[← hpi] at h1;exact h1
theorem Zgi (a b:DfaD):∀ (w:List Nat) (s t:Int),w.foldl (Zav a b) (s,t)=(runD a s w,runD b t w)
 | [],_,_=>rfl
 | c::w,s,t=>Zgi a b w (dnx a s c) (dnx b t c)
theorem Zm7 {K:Nat} {a b:DfaD} {w:List Nat} (h:hitK K a b=some w):isW w∧accD a w≠accD b w:=by have hg:=(Za9 (nx:=Zav a b) (a:=((0,0):Int × Int)) K).2.1;obtain⟨i,hi,hw,he⟩:=ZdZ (d:=((0,0):Int × Int)) hg h;obtain⟨h1,h2⟩:=Zmk (nx:=Zav a b) (a:=((0,0):Int × Int)) K i hi;rw[hw] at h1 h2;rw[Zgi] at h1;refine⟨h2,fun e => ?_⟩;unfold ZbP at he;rw[← h1] at he;unfold accD den at e;simp only at he;rw[e] at he;simp at he
theorem ZfE (a b:DfaD):Zc7 (Zaz a) (Zaz b)=ZcI a b:=by
 unfold Zc7 ZcI shN Zaz;simp only[List.map_cons,List.map_nil];congr 1
 ·show(b.next.length:Int)+(a.next.length:Int)=_;omega
 congr 1
 generalize eds a a.next.length=l
 induction l with
 | nil=>rfl
 | cons x l ih =>rw[List.flatMap_cons,List.map_cons,ih];simp
theorem Zff (a:DfaD):Zch (Zaz a)=ZcX a:=by unfold Zch ZcX Zaz;simp
theorem Zny {u v:Nat} (h:pW u=pW v):u=v:=by rw[← ZmL u,h,ZmL]
def nxV (N:Nat) (n:NfaD) (v c:Nat):Nat:=stV N n.moves v (c:Int)
theorem Zon (N K:Nat) (n:NfaD):metW N n K=(bat (nxV N n) (fstW N n) K).met.map pW:=by have h:=Zi2 (nx:=nxV N n) (nx':=nxW N n) (f:=pW) (a:=fstW N n) (fun x y h=>Zny h) (fun x c=>(Zla N n x c).symm) K;show(bat (nxW N n) (pW (fstW N n)) K).met=_;rw[h]
def gS (v:Nat):Int × Int:=((v:Int),0)
theorem ZnC {u v:Nat} (h:gS u=gS v):u=v:=Int.ofNat.inj (congrArg Prod.fst h)
theorem Zom (N K:Nat) (n:NfaD):metSM N n K=(bat (nxV N n) (fstW N n) K).met.map gS:=by have h:=Zi2 (nx:=nxV N n) (nx':=nxSM N n) (f:=gS) (a:=fstW N n) (fun x y h=>ZnC h) (fun x c=>rfl) K;show(bat (nxSM N n) (gS (fstW N n)) K).met=_;rw[h]
theorem Zld {α β:Type} [DecidableEq α] [DecidableEq β] {f:α→β} (hf:∀ x y,f x=f y→x=y) {nx:α→Nat→α} {nx':β→Nat→β} {en:α→Bool} {en':β→Bool} (hn:∀ x c,nx' (f x) c=f (nx x c)) (he:∀ x,en' (f x)=en x) (L:List α):Zap nx' en' (L.map f)=Zap nx en L:=by
 unfold Zap;rw[List.map_map,List.map_map];congr 1
 ·refine List.map_congr_left fun x _ => ?_
  show Zad nx' (L.map f) (f x)=Zad nx L x;unfold Zad;refine List.map_congr_left fun c _ => ?_
  show((Zai (L.map f) (nx' (f x) c):Nat):Int)=_;rw[hn,Zfl fun y _ e=>hf _ _ e]
 exact List.map_congr_left fun x _=>he x
theorem ZjA (N K:Nat) (n:NfaD):ZeW N K n=detM N K n:=by
 unfold ZeW detM;rw[Zon N K n,Zom N K n];simp only[List.length_map]
 rw[Zld (f:=pW) (nx:=nxV N n) (nx':=nxW N n) (en:=fun v=>endV n v) (en':=enW n) (fun x y h=>Zny h) (fun x c=>Zla N n x c) (fun x=>ZnE n x),
  Zld (f:=gS) (nx:=nxV N n) (nx':=nxSM N n) (en:=fun v=>endV n v) (en':=enS n) (fun x y h=>ZnC h) (fun x c=>rfl) (fun x=>rfl)]
end Go.Proofs.YtfikabecgaappaaGreat
namespace Go.Proofs.YtfikabecgaappaaGreat
open Go.RowKit Go.Maps
def Zc2 (p:Int × Int):List Int:=[p.1,p.2]
structure L16W (lo hi:Nat) (w:World) (s:Bs (Int × Int)) (vl vw:Value):Prop where
 li:OIntSS 26 3 lo hi w vl (s.met.map Zc2)
 wo:w.ownsRow lo 9 1 vw s.words.length (wdCells s.words)
theorem L16W.below {lo hi:Nat} {w w':World} {s:Bs (Int × Int)} {vl vw:Value} (h:L16W lo hi w s vl vw) (hb:Below w.heap.size w w'):L16W lo hi w' s vl vw :=
 ⟨h.li.below hb,(Own.below (Zaa h.wo) hb).1⟩
theorem L16W.up {lo hi hi':Nat} {w:World} {s:Bs (Int × Int)} {vl vw:Value} (h:L16W lo hi w s vl vw) (hh:hi≤hi'):L16W lo hi' w s vl vw:=⟨h.li.mono (Nat.le_refl _) hh,h.wo⟩
theorem L16W.row {lo hi:Nat} {w:World} {s:Bs (Int × Int)} {vl vw:Value} (h:L16W lo hi w s vl vw) (h0:0<s.met.length):∃ g off cap,vl = .slice (some ⟨g,off,none⟩) s.met.length cap∧s.met.length≤cap∧cap≤9223372036854775807∧g<w.heap.size ∧
  ∀ k,k<s.met.length→∃ rb ro rc,w.cell? ⟨g,off+k,none⟩=some (.slice (some ⟨rb,ro,none⟩) 2 rc)∧2≤rc∧rc≤9223372036854775807∧rb<w.heap.size∧w.cell? ⟨rb,ro,none⟩=some (.int .i64 (s.met.getD k (0,0)).1)∧w.cell? ⟨rb,ro+1,none⟩=some (.int .i64 (s.met.getD k (0,0)).2):=by
 obtain⟨a,cap,hv,h1,h2,h3⟩:=h.li.intSS.form;rw[List.length_map] at hv h1 h3;obtain⟨g,off,rfl,-,hg,hc⟩:=h3 h0;refine⟨g,off,cap,hv,h1,h2,hg,fun k hk => ?_⟩;obtain⟨a',cap',hc1,hl,hm,hr⟩:=hc k hk;have e:(s.met.map Zc2).getD k []=Zc2 (s.met.getD k (0,0)):=by simp[hk]
 rw[e] at hc1 hl hr;obtain⟨b',off',rfl,-,hb',hcc⟩:=hr (by simp[Zc2]);exact⟨b',off',cap',hc1,hl,hm,hb',by simpa [Zc2] using hcc 0 (by simp[Zc2]),by simpa [Zc2] using hcc 1 (by simp[Zc2])⟩
theorem Zms (w:World):(zeroValue 4).run Tryz.prog w = .ok (.bool false) w:=by kernel_rfl
end Go.Proofs.YtfikabecgaappaaGreat
namespace Go.Proofs.YtfikabecgaappaaGreat
open Go.RowKit
section
variable {α:Type} [DecidableEq α] {nx:α→Nat→α} {a:α} {en:α→Bool} {K:Nat}
theorem Zj0 {F:List α} {x:α} (h:x∈F) (d:α):F.getD (Zai F x) d=x:=by have h1:=ZaK h;rw[Za1 h1];exact List.getElem_idxOf h1
theorem ZiB (hK:(bat nx a K).met.length≤K):∀ (w:List Nat),isW w→∀ x∈(bat nx a K).met,w.foldl nx x∈(bat nx a K).met∧runD (Zap nx en (bat nx a K).met) (Zai (bat nx a K).met x:Nat) w=(Zai (bat nx a K).met (w.foldl nx x):Nat)
 | [],_,x,hx=>⟨hx,rfl⟩
 | c::w,hw,x,hx=>by have hc:c<3:=hw c (by simp);have hx2:=Zdq hK hx hc;have h1:=ZaK hx;obtain⟨h2,h3⟩:=ZiB hK w (fun b hb=>hw b (by simp[hb])) (nx x c) hx2;refine⟨h2,?_⟩;unfold runD at *;rw[List.foldl_cons,List.foldl_cons,← h3,ZiZ (a:=a) (by omega) (by omega) hc];unfold Zbt;rw[Int.toNat_natCast,Zj0 hx]
theorem Zea (hK:(bat nx a K).met.length≤K) {w:List Nat} (hw:isW w):accD (Zap nx en (bat nx a K).met) w=en (w.foldl nx a):=by
 have h0:=Zhz (nx:=nx) (a:=a) K;obtain⟨h1,h2⟩:=ZiB (en:=en) hK w hw a h0;have h3:Zai (bat nx a K).met a=0:=by have hp:=Zdg (nx:=nx) (a:=a) K;have hf:=Zf0 (nx:=nx) (a:=a) K;have hn:=(Za9 (nx:=nx) (a:=a) K).1;rw[Za1 hp] at hf;have:=List.Nodup.idxOf_getElem hn 0 hp;rw[hf] at this;exact this
 rw[h3] at h2;unfold accD;rw[show((0:Nat):Int)=0 from rfl] at h2;rw[h2,Zi0 (ZaK h1)];congr 1;exact List.getElem_idxOf _
end
theorem Zdk (d:DfaD) (s:Int):runD d s []=s:=rfl
theorem ZaM (d:DfaD) (s:Int) (c:Nat) (w:List Nat):runD d s (c::w)=runD d (dnx d s c) w:=rfl
theorem Zje (d:DfaD) (s:Int) (u w:List Nat):runD d s (u++w)=runD d (runD d s u) w:=by simp[runD]
theorem ZbY {c:Nat} {w:List Nat} (h:isW (c::w)):c<3∧isW w:=⟨h c (by simp),fun b hb=>h b (by simp[hb])⟩
theorem ZiV:isW []:=fun c hc=>by simp at hc
theorem ZnB {c:Nat} {w:List Nat} (hc:c<3) (h:isW w):isW (c::w):=fun b hb=>by
 rcases List.mem_cons.1 hb with rfl|hb
 ·exact hc
 exact h b hb
theorem Zbm {d:DfaD} (hd:fine d) {s c:Nat} (hs:s<d.next.length) (hc:c<3):nxD d s c<d.next.length∧dnx d (s:Int) c=((nxD d s c:Nat):Int):=Zbz hd hs hc
theorem ZdJ {d:DfaD} (hd:fine d):∀ (w:List Nat) {s:Nat},isW w→s<d.next.length→∃ t:Nat,t<d.next.length∧runD d (s:Int) w=(t:Int)
 | [],s,_,hs=>⟨s,hs,rfl⟩
 | c::w,s,hw,hs=>by obtain⟨h1,h2⟩:=ZbY hw;obtain⟨h3,h4⟩:=Zbm hd hs h1;rw[ZaM,h4];exact ZdJ hd w h2 h3
theorem ZaW (d:DfaD) (s:Nat):den d (s:Int)=enD d s:=by simp[den,enD]
theorem ZnF {d:DfaD} (hd:fine d):∀ (w:List Nat) {s t:Nat},isW w→s<d.next.length→t<d.next.length→clD d s=clD d t→den d (runD d (s:Int) w)=den d (runD d (t:Int) w)
 | [],s,t,_,hs,ht,h=>by rw[Zdk,Zdk,ZaW,ZaW];exact ZcE hs ht h
 | c::w,s,t,hw,hs,ht,h=>by obtain⟨h1,h2⟩:=ZbY hw;obtain⟨h3,h4⟩:=Zbm hd hs h1;obtain⟨h5,h6⟩:=Zbm hd ht h1;rw[ZaM,ZaM,h4,h6];exact ZnF hd w h2 h3 h5 (Zhu (fun s c hs hc=>(Zbm hd hs hc).1) hs ht h c h1)
theorem ZgT {d:DfaD} (hd:fine d):∀ (i:Nat) {s t:Nat},s<d.next.length→t<d.next.length→(∀ w,isW w→den d (runD d (s:Int) w)=den d (runD d (t:Int) w))→clAt d.next.length (nxD d) (enD d) i s=clAt d.next.length (nxD d) (enD d) i t
 | 0,s,t,hs,ht,h=>by
  refine(ZgE hs ht).2 ?_;have:=h [] ZiV
  rwa [Zdk,Zdk,ZaW,ZaW] at this
 | i+1,s,t,hs,ht,h=>by
  refine(Zbq hs ht).2 ((Zat _).2 ⟨ZgT hd i hs ht h,fun c hc => ?_⟩);obtain⟨h3,h4⟩:=Zbm hd hs hc;obtain⟨h5,h6⟩:=Zbm hd ht hc;refine ZgT hd i h3 h5 fun w hw => ?_
  have:=h (c::w) (ZnB hc hw)
  rwa [ZaM,ZaM,h4,h6] at this
theorem ZkO {d:DfaD} (hd:fine d) {s t:Nat} (hs:s<d.next.length) (ht:t<d.next.length) (h:∀ w,isW w→den d (runD d (s:Int) w)=den d (runD d (t:Int) w)):clD d s=clD d t:=ZgT hd _ hs ht h
theorem ZcV {d:DfaD} {s:Nat} (hs:s<d.next.length):clD d s<d.next.length:=by have:=(Zba (d:=d) s hs).1;omega
theorem ZfU {d:DfaD} (hd:fine d) {s:Nat} (hs:s<d.next.length) {w:List Nat} (hw:isW w):den d (runD d ((clD d s:Nat):Int) w)=den d (runD d (s:Int) w) :=
 ZnF hd w hw (ZcV hs) hs (Zba s hs).2
theorem Zb2 {d:DfaD} (hf:fine d) (K:Nat):(∀ x∈(bat (nxM d) ((clD d 0:Nat):Int) K).met,∃ s:Nat,x=(s:Int)∧s<d.next.length∧clD d s=s)∧(bat (nxM d) ((clD d 0:Nat):Int) K).met.length≤d.next.length:=by
 have hl:1≤d.next.length:=hf.1
 have h1:∀ x∈(bat (nxM d) ((clD d 0:Nat):Int) K).met,∃ s:Nat,x=(s:Int)∧s<d.next.length∧clD d s=s:=by
  refine ZbF (Q:=fun x=>∃ s:Nat,x=(s:Int)∧s<d.next.length∧clD d s=s) ?_ (fun x c hc hx => ?_) K
  ·exact⟨clD d 0,rfl,ZcV (by omega),(Zba 0 (by omega)).2⟩
  obtain⟨s,rfl,hs,-⟩:=hx;have h2:=(Zbz hf hs hc).1;exact⟨clD d (nxD d s c),by simp[nxM],ZcV h2,(Zba _ h2).2⟩
 refine⟨h1,?_⟩;have h2:=Zdn (Za9 (nx:=nxM d) (a:=((clD d 0:Nat):Int)) K).1 (m:=ZaT d.next.length) (fun x hx=>by obtain⟨s,rfl,hs,-⟩:=h1 x hx;rw[Zb3];exact hs);rw[Zb0] at h2;exact h2
theorem Zlo {d:DfaD} (hd:fine d) {K:Nat} (hK:d.next.length≤K):minD d=Zap (nxM d) (den d) (bat (nxM d) ((clD d 0:Nat):Int) K).met:=by unfold minD;rw[Zbj (Zb2 hd _).2 hK]
theorem Znd {d:DfaD} (hd:fine d):fine (minD d):=Ze7 (Zb2 hd _).2 hd.2.1
theorem ZfM {d:DfaD} (hd:fine d):∀ (w:List Nat) {s:Nat},isW w→s<d.next.length→∃ t:Nat,t<d.next.length∧w.foldl (nxM d) ((clD d s:Nat):Int)=((clD d t:Nat):Int)∧runD d (s:Int) w=(t:Int)
 | [],s,_,hs=>⟨s,hs,rfl,rfl⟩
 | c::w,s,hw,hs=>by
  obtain⟨h1,h2⟩:=ZbY hw;obtain⟨h3,h4⟩:=Zbm hd hs h1;obtain⟨t,ht,e1,e2⟩:=ZfM hd w h2 h3;refine⟨t,ht,?_,by rw[ZaM,h4];exact e2⟩;have e3:nxM d ((clD d s:Nat):Int) c=((clD d (nxD d s c):Nat):Int):=by unfold nxM;rw[Int.toNat_natCast];congr 1;exact Zhu (fun s c hs hc=>(Zbm hd hs hc).1) (ZcV hs) hs (Zba s hs).2 c h1
  rw[List.foldl_cons,e3];exact e1
theorem Zln {d:DfaD} (hd:fine d) {w:List Nat} (hw:isW w):accD (minD d) w=accD d w:=by unfold minD;rw[Zea (Zb2 hd _).2 hw];obtain⟨t,ht,e1,e2⟩:=ZfM hd w hw (show 0<d.next.length from hd.1);rw[e1,ZaW];unfold accD;rw[show(0:Int)=((0:Nat):Int) from rfl,e2,ZaW];exact ZcE (ZcV ht) ht (Zba t ht).2
theorem Zmy {d:DfaD} (hd:fine d) {w:List Nat} (hw:isW w):accD (ZaU d) w=accD d w:=by unfold ZaU;rw[Zea (Zbd hd _).2 hw];rfl
theorem Zlm {x y:DfaD} (hx:fine x) (hy:fine y) (h:∀ w,isW w→accD x w=accD y w):minD x=minD y:=by
 obtain⟨K,hK⟩:=eI (x.next.length+y.next.length);rw[Zlo hx (show x.next.length≤K by omega),Zlo hy (show y.next.length≤K by omega)];have lx:0<x.next.length:=hx.1;have ly:0<y.next.length:=hy.1
 let nq:Int × Int→Nat→Int × Int:=fun p c=>(nxM x p.1 c,nxM y p.2 c)
 let Q:Int × Int→Prop:=fun p=>∃ s t:Nat,p=((s:Int),(t:Int))∧s<x.next.length∧t<y.next.length∧clD x s=s∧clD y t=t∧∀ w,isW w→den x (runD x (s:Int) w)=den y (runD y (t:Int) w)
 let a:Int × Int:=(((clD x 0:Nat):Int),((clD y 0:Nat):Int))
 have h0:Q a:=⟨clD x 0,clD y 0,rfl,ZcV lx,ZcV ly,(Zba 0 lx).2,(Zba 0 ly).2,fun w hw=>by rw[ZfU hx lx hw,ZfU hy ly hw];exact h w hw⟩
 have hv:∀ p c,c<3→Q p→Q (nq p c):=by
  rintro p c hc ⟨s,t,rfl,hs,ht,-,-,hr⟩;obtain⟨h3,h4⟩:=Zbm hx hs hc;obtain⟨h5,h6⟩:=Zbm hy ht hc;refine⟨clD x (nxD x s c),clD y (nxD y t c),by simp[nq,nxM],ZcV h3,ZcV h5,(Zba _ h3).2,(Zba _ h5).2,fun w hw => ?_⟩;rw[ZfU hx h3 hw,ZfU hy h5 hw];have:=hr (c::w) (ZnB hc hw)
  rwa [ZaM,ZaM,h4,h6] at this
 have f1:∀ p q,Q p→Q q→p.1=q.1→p=q:=by
  rintro p q ⟨s,t,rfl,hs,ht,-,e1,r1⟩ ⟨s',t',rfl,hs',ht',-,e2,r2⟩ he;simp only[Int.ofNat_inj] at he;subst he;have:=ZkO hy ht ht' fun w hw=>(r1 w hw).symm.trans (r2 w hw)
  rw[e1,e2] at this;rw[this]
 have f2:∀ p q,Q p→Q q→p.2=q.2→p=q:=by
  rintro p q ⟨s,t,rfl,hs,ht,e1,-,r1⟩ ⟨s',t',rfl,hs',ht',e2,-,r2⟩ he;simp only[Int.ofNat_inj] at he;subst he;have:=ZkO hx hs hs' fun w hw=>(r1 w hw).trans (r2 w hw).symm
  rw[e1,e2] at this;rw[this]
 have m1:=ZcP (nx:=nq) (nx':=nxM x) (a:=a) (f:=Prod.fst) (Q:=Q) (en:=fun p=>den x p.1) (en':=den x) (K:=K) h0 hv f1 (fun _ _ _ _=>rfl) (fun _ _=>rfl);have m2:=ZcP (nx:=nq) (nx':=nxM y) (a:=a) (f:=Prod.snd) (Q:=Q) (en:=fun p=>den x p.1) (en':=den y) (K:=K) h0 hv f2 (fun _ _ _ _=>rfl) (fun p hp=>by obtain⟨s,t,rfl,-,-,-,-,r⟩:=hp;exact(r [] ZiV).symm);exact m1.trans m2.symm
theorem ZnU {d:DfaD} (hd:fine d):minD (minD d)=minD d:=Zlm (Znd hd) hd fun _ hw=>Zln hd hw
theorem ZmO {d:DfaD} (hd:fine d) (ht:ZaU d=d) (hr:∀ s t:Nat,s<d.next.length→t<d.next.length→(∀ w,isW w→den d (runD d (s:Int) w)=den d (runD d (t:Int) w))→s=t):minD d=d:=by
 have hc:∀ s,s<d.next.length→clD d s=s:=fun s hs=>hr _ _ (ZcV hs) hs fun w hw=>ZfU hd hs hw
 have h0:0<d.next.length:=hd.1
 have hb:=Zf1 (nx:=dnx d) (nx':=nxM d) (a:=(0:Int)) (Q:=fun x=>∃ s:Nat,x=(s:Int)∧s<d.next.length) ⟨0,rfl,h0⟩ (by
  rintro x c hc ⟨s,rfl,hs⟩;obtain⟨h3,h4⟩:=Zbm hd hs hc;exact⟨_,h4,h3⟩) (by
  rintro x c hc' ⟨s,rfl,hs⟩;obtain⟨h3,h4⟩:=Zbm hd hs hc';unfold nxM;rw[Int.toNat_natCast,hc _ h3,h4]) d.next.length
 refine Eq.trans ?_ ht;unfold minD ZaU;rw[hc 0 h0,show((0:Nat):Int)=0 from rfl,← hb];unfold Zap;congr 1;refine List.map_congr_left fun x hx => ?_
 unfold Zad;refine List.map_congr_left fun c hc' => ?_
 obtain⟨h1,-⟩:=Zbd hd d.next.length;obtain⟨g1,g2⟩:=h1 x hx;obtain⟨s,rfl⟩:=Int.eq_ofNat_of_zero_le g1;obtain⟨h3,h4⟩:=Zbm hd (show s<d.next.length by omega) (List.mem_range.1 hc');unfold nxM;rw[Int.toNat_natCast,hc _ h3,h4]
theorem ZeC {α:Type} [DecidableEq α] {nx:α→Nat→α} {a:α} {en:α→Bool} {K:Nat} (hK:(bat nx a K).met.length≤K) {i:Nat} (hi:i<(bat nx a K).met.length) {w:List Nat} (hw:isW w) :
  den (Zap nx en (bat nx a K).met) (runD (Zap nx en (bat nx a K).met) (i:Int) w)=en (w.foldl nx ((bat nx a K).met.getD i a)):=by
 obtain⟨h1,h2⟩:=ZiB (en:=en) hK w hw _ (memD (d:=a) hi);rw[ZdW hi (Za9 K).1] at h2;rw[h2,Zi0 (ZaK h1)];congr 1;exact List.getElem_idxOf _
theorem ZiL {d:DfaD} (hd:fine d) {s t:Nat} (hs:s<(minD d).next.length) (ht:t<(minD d).next.length) (h:∀ w,isW w→den (minD d) (runD (minD d) (s:Int) w)=den (minD d) (runD (minD d) (t:Int) w)):s=t:=by
 have hK:=(Zb2 hd d.next.length).2;have hin:=(Zb2 hd d.next.length).1;have hl:(minD d).next.length=(bat (nxM d) ((clD d 0:Nat):Int) d.next.length).met.length:=ZaL _ _ _;rw[hl] at hs ht;have h1:=hin _ (memD (d:=((clD d 0:Nat):Int)) hs);have h2:=hin _ (memD (d:=((clD d 0:Nat):Int)) ht);obtain⟨p,hp,hpl,hpc⟩:=h1;obtain⟨q,hq,hql,hqc⟩:=h2
 have key:p=q:=by
  rw[← hpc,← hqc];refine ZkO hd hpl hql fun w hw => ?_
  have h3:=h w hw;unfold minD at h3;rw[ZeC hK hs hw,ZeC hK ht hw,hp,hq] at h3;have e:=fun (r:Nat) (hr:r<d.next.length) (hc:clD d r=r)=>ZfM hd w hw hr
  obtain⟨u,hu,u1,u2⟩:=e p hpl hpc;obtain⟨v,hv,v1,v2⟩:=e q hql hqc;rw[hpc] at u1;rw[hqc] at v1;rw[u1,v1,ZaW,ZaW] at h3;rw[u2,v2,ZaW,ZaW,← ZcE (ZcV hu) hu (Zba u hu).2,h3];exact ZcE (ZcV hv) hv (Zba v hv).2
 have e1:=ZdW hs (Za9 (nx:=nxM d) (a:=((clD d 0:Nat):Int)) d.next.length).1 ((clD d 0:Nat):Int);have e2:=ZdW ht (Za9 (nx:=nxM d) (a:=((clD d 0:Nat):Int)) d.next.length).1 ((clD d 0:Nat):Int);rw[hp] at e1;rw[hq,← key] at e2;exact e1.symm.trans e2
theorem ZmN {d:DfaD} (hd:fine d):ZaU (minD d)=minD d:=Zmw (Zb2 hd _).2
def vl (w:List Nat):Nat:=w.foldl (fun n c=>3*n+c+1) 0
section
variable {α:Type} [DecidableEq α] {nx:α→Nat→α} {a:α}
structure BI (s:Bs α) (B:Nat):Prop where
 len:s.words.length=s.met.length
 inc:∀ i j,i<j→j<s.met.length→vl (s.words.getD i [])<vl (s.words.getD j [])
 bnd:∀ j,j<s.met.length→vl (s.words.getD j [])≤B
omit [DecidableEq α] in
theorem BI.up {s:Bs α} {B B':Nat} (h:BI s B) (hB:B≤B'):BI s B':=⟨h.len,h.inc,fun j hj=>Nat.le_trans (h.bnd j hj) hB⟩
end
def Strs (B:Nat) (w:World) (v:Value) (ws:List (List Nat)):Prop:=Sl B w v ws.length 1 (wdCells ws)
theorem Strs.below {B:Nat} {w w':World} {v:Value} {ws:List (List Nat)} (h:Strs B w v ws) (he:Below w.heap.size w w'):Strs B w' v ws:=Sl.below h he
theorem Strs.form {B:Nat} {w:World} {v:Value} {ws:List (List Nat)} (h:Strs B w v ws):∃ a cap,v = .slice a ws.length cap∧ws.length≤cap∧cap≤9223372036854775807 ∧
  (0<ws.length→∃ b off,a=some ⟨b,off,none⟩∧b<w.heap.size∧∀ j,j<ws.length→w.cell? ⟨b,off+j,none⟩=some (.string (wdB (ws.getD j [])))):=by
 obtain⟨hl,a,cap,hv,h1,h2,h3⟩:=h;refine⟨a,cap,hv,h1,h2,fun hn => ?_⟩;obtain⟨b,off,ha,hb,hlt,hc⟩:=h3 hn;refine⟨b,off,ha,hlt,fun j hj => ?_⟩;rw[hc j (by omega)];simp[hj]
def okWs (ws:List (List Nat)):Prop:=∀ x∈ws,isW x∧x.length≤400000
def LOk (st:List (List Nat)):Prop:=(∀ x∈st,isW x)∧∀ i,i<st.length→(st.getD i []).length≤i
theorem LOk.visit {β:Type} [DecidableEq β] {key:List Nat→β} {s:List (List Nat)} (h:LOk s) {w:List Nat} (hw:isW w) (hl:w.length≤s.length):LOk (kvisit key s w):=by
 unfold kvisit
 split
 ·exact h
 refine⟨fun x hx => ?_,fun i hi => ?_⟩
 ·rcases List.mem_append.1 hx with hx|hx
  ·exact h.1 x hx
  simp only[List.mem_singleton] at hx;rw[hx];exact hw
 simp only[List.length_append,List.length_singleton] at hi;by_cases hin:i<s.length
 ·have:=h.2 i hin;simp only[List.getD_eq_getElem?_getD] at this ⊢;rw[List.getElem?_append_left hin];exact this
 obtain rfl:i=s.length:=by omega
 simpa using hl
theorem LOk.row {β:Type} [DecidableEq β] {key:List Nat→β} {s:List (List Nat)} (h:LOk s) {k:Nat} (hk:k<s.length):∀ n,n≤3→LOk (krow key s (s.getD k []) n)∧s.length≤(krow key s (s.getD k []) n).length
 | 0,_=>⟨h,Nat.le_refl _⟩
 | n+1,hn=>by obtain⟨h1,h2⟩:=h.row (key:=key) hk n (by omega);have h3:=(Zgx (key:=key) (krow key s (s.getD k []) n) (s.getD k []++[n])).length_le;refine⟨h1.visit (Zdo (h.1 _ (memD hk)) (ZiU (by omega))) ?_,Nat.le_trans h2 h3⟩;have:=h.2 k hk;rw[List.length_append,List.length_singleton];omega
theorem LOk.kat {β:Type} [DecidableEq β] {key:List Nat→β} {s:List (List Nat)} (h:LOk s):∀ k,LOk (kat key s k)
 | 0=>h
 | k+1=>by
  have ih:=LOk.kat (key:=key) h k;by_cases hk:k<(Go.Proofs.YtfikabecgaappaaGreat.kat key s k).length
  ·rw[ZdQ hk];exact(ih.row hk 3 (by omega)).1
  rw[ZdR (by omega)];exact ih
theorem LOk.okWs {st:List (List Nat)} (h:LOk st) (hl:st.length≤1000):∀ x∈st,isW x∧x.length≤399999:=fun x hx=>by refine⟨h.1 x hx,?_⟩;obtain⟨i,hi,e⟩:=List.getElem_of_mem hx;have:=h.2 i hi;rw[Za1 hi,e] at this;omega
def hitD (d:DfaD) (g:DfaD):Option (List Nat):=hitP d g
theorem ZlF (d g:DfaD):hitD d g=hitK ZnT d g:=rfl
theorem ZmM:ZnT≤1600:=Nat.le_refl _
theorem Zh4 {d g:DfaD} {w:List Nat} (h:hitD d g=some w):isW w∧accD d w≠accD g w:=by rw[ZlF] at h;exact Zm7 h
theorem ZlE (d:DfaD):Zor d (hitD d):=fun _ _ _ h=>Zh4 h
theorem Zm8 {K:Nat} {a b:DfaD} {w:List Nat} (h:hitK K a b=some w):w.length≤K:=by have hg:=(Za9 (nx:=Zav a b) (a:=((0,0):Int × Int)) K).2.1;obtain⟨i,hi,hw,-⟩:=ZdZ (d:=((0,0):Int × Int)) hg h;rw[← hw];exact ZjM (nx:=Zav a b) (a:=((0,0):Int × Int)) K _ (memD (by omega))
theorem Zm9 {d g:DfaD} {w:List Nat} (h:hitD d g=some w):w.length≤1600:=by rw[ZlF] at h;have:=Zm8 h;have:=ZmM;omega
def preW (d:DfaD):Nat→List (List Nat)
 | 0=>[[]]
 | j+1=>(tabW d (hitD d) j).1
def resW (d:DfaD) (j:Nat):List (List Nat):=(tabW d (hitD d) j).2
def staW (d:DfaD) (j:Nat):List (List Nat):=(tabW d (hitD d) j).1
def gueW (d:DfaD) (j:Nat):DfaD:=gssW d (hitD d) j
theorem Zj2 {α:Type} {l m:List α} (h:l <+: m) (hm:m.Nodup):l.Nodup:=by obtain⟨t,rfl⟩:=h;exact(List.nodup_append.1 hm).1
theorem ZkZ (d:DfaD) (j:Nat) {w:List Nat} (h:hitD d (gueW d j)=some w):resW d (j+1)=resW d j++[w.drop (cutW d (staW d j) (gueW d j) w+1)]:=by show(tabW d (hitD d) j).2++_=_;have h':hitD d (Zaw d (tabW d (hitD d) j).1 (tabW d (hitD d) j).2)=some w:=h;simp only[h',Option.getD_some];rfl
structure LTab (d:DfaD) (j:Nat):Prop where
 pre:LOk (preW d j)
 nd:((preW d j).map (rowW d (resW d j))).Nodup
 re:okWs (resW d j)
 rl:(resW d j).length≤j+1
 inv:LInv d (staW d j) (resW d j)
 st:LOk (staW d j)
theorem LTab.at {d:DfaD} (hd:Zae d.next d.ends=true):∀ j,(∀ i,i<j→(hitD d (gueW d i)).isSome=true)→LTab d j
 | 0,hy=>by
  have hinv:=(Zit hd (ZlE d) 0 hy).1
  have h0:LOk [[]]:=⟨fun x hx=>by simp at hx;subst hx;intro c hc;simp at hc,fun i hi=>by
   obtain rfl:i=0:=by simpa using hi
   simp⟩
  exact⟨h0,by simp[preW],fun x hx=>by simp[resW,tabW] at hx;subst hx;exact⟨fun c hc=>by simp at hc,by simp⟩,by simp[resW,tabW],hinv,LOk.kat h0 _⟩
 | j+1,hy=>by
  have ih:=LTab.at hd j fun i hi=>hy i (by omega)
  have hinv:=(Zit hd (ZlE d) (j+1) hy).1;obtain⟨w,hw⟩:=Option.isSome_iff_exists.1 (hy j (by omega));have hr:=ZkZ d j hw;have hww:=(Zh4 hw).1;have hpre:preW d (j+1) <+: staW d (j+1):=Zg9 (key:=rowW d (resW d (j+1))) (s0:=preW d (j+1)) (Nat.zero_le (d.next.length+1));refine⟨ih.st,?_,fun x hx => ?_,?_,hinv,LOk.kat (s:=preW d (j+1)) ih.st _⟩
  ·obtain⟨t,ht⟩:=hpre;have h1:=hinv.nd;refine Zj2 (m:=(staW d (j+1)).map (rowW d (resW d (j+1)))) ⟨t.map (rowW d (resW d (j+1))),?_⟩ h1;rw[← List.map_append,ht]
  ·rw[hr] at hx;rcases List.mem_append.1 hx with hx|hx
   ·exact ih.re x hx
   simp only[List.mem_singleton] at hx;subst hx;refine⟨Zhb hww _,?_⟩;have:=Zm9 hw;rw[List.length_drop];omega
  rw[hr,List.length_append,List.length_singleton];have:=ih.rl;omega
/-! The guesses in memory. -/
def Ent.sub (X y:Ent):Prop:=(∀ w,X.holds w→y.holds w)∧∀ k,y.foot k→X.foot k
def GMem (X:Ent) (vals:List (Value × Value)) (gs:List DfaD):Prop:=vals.length=gs.length∧∀ i,i<gs.length →
 ∃ a1 c1 a2 c2 vs,vals.getD i (undef,undef)=(.slice a1 (gs.getD i ⟨[],[]⟩).next.length c1,.slice a2 (gs.getD i ⟨[],[]⟩).next.length c2) ∧
  Ent.sub X (Ent.rows 26 3 (.slice a1 (gs.getD i ⟨[],[]⟩).next.length c1) vs ((gs.getD i ⟨[],[]⟩).next.map intCells))∧Ent.sub X (Ent.row 4 1 (.slice a2 (gs.getD i ⟨[],[]⟩).next.length c2) (gs.getD i ⟨[],[]⟩).next.length (boolCells (gs.getD i ⟨[],[]⟩).ends))
theorem GMem.nil (X:Ent):GMem X [] []:=⟨rfl,fun i hi=>absurd hi (by simp)⟩
theorem Tryz.infoDfa:(Tryz.prog.info? 37).map (fun i=>(i.zero,i.size,i.bytes))=some (some (.agg #[.slice none 0 0,.slice none 0 0]),2,48):=by kernel_rfl
theorem GMem.own {w0 w:World} {L:List Ent} (h:St w0 w L) (i:Nat) {X:Ent} (hx:L[i]? = some X) {vals:List (Value × Value)} {gs:List DfaD} (hG:GMem X vals gs) {k:Nat} (hk:k<gs.length) :
  ∃ a1 c1 a2 c2,vals.getD k (undef,undef)=(.slice a1 (gs.getD k ⟨[],[]⟩).next.length c1,.slice a2 (gs.getD k ⟨[],[]⟩).next.length c2)∧(gs.getD k ⟨[],[]⟩).ends.length=(gs.getD k ⟨[],[]⟩).next.length ∧
   DfaO 26 3 4 w0.heap.size w.heap.size w (.agg #[.slice a1 (gs.getD k ⟨[],[]⟩).next.length c1,.slice a2 (gs.getD k ⟨[],[]⟩).next.length c2]) (gs.getD k ⟨[],[]⟩):=by
 obtain⟨a1,c1,a2,c2,vs,e,s1,s2⟩:=hG.2 k hk;have hil:i<L.length:=(List.getElem?_eq_some_iff.1 hx).1;have h1:=h.same i hx _ (s1.1 w) s1.2;have h2:=h.same i hx _ (s2.1 w) s2.2;have g1:=h1.intSS i (by rw[List.getElem?_set,if_pos rfl,if_pos hil]);have g2:=h2.row i (by rw[List.getElem?_set,if_pos rfl,if_pos hil]);have hl:(gs.getD k ⟨[],[]⟩).ends.length=(gs.getD k ⟨[],[]⟩).next.length:=by have:=g2.1;simp at this;simpa using this
 refine⟨a1,c1,a2,c2,e,hl,_,_,rfl,g1,?_⟩;unfold OBools;rw[hl];exact Zaa g2
def xb (b x:Bool):Bool:=b != x
def flB (b:Bool) (g:DfaD):DfaD:=⟨g.next,g.ends.map (xb b)⟩
theorem ZiX (b:Bool) (g:DfaD) (s:Int) (w:List Nat):runD (flB b g) s w=runD g s w:=rfl
theorem ZnD {b:Bool} {g:DfaD} (h:Zae g.next g.ends=true):Zae (flB b g).next (flB b g).ends=true:=by
 have hl:=Zac h;refine Zhq hl.1 hl.2.1 ?_ fun i hi=>ZaD h hi
 show(g.ends.map (xb b)).length=g.next.length;rw[List.length_map];exact hl.2.2
theorem Zn5 {b:Bool} {g:DfaD} (h:Zae g.next g.ends=true) {w:List Nat} (hw:isW w):accD (flB b g) w=xb b (accD g w):=by have hl:=Zac h;obtain⟨t,ht,hr⟩:=ZdJ (ZaB h) w (s:=0) hw (by omega);have hr:runD g 0 w=(t:Int):=hr;unfold accD;rw[ZiX,hr,ZaW,ZaW];show(g.ends.map (xb b)).getD t false=xb b (g.ends.getD t false);rw[List.getD_eq_getElem?_getD,List.getElem?_map,List.getD_eq_getElem?_getD,List.getElem?_eq_getElem (show t<g.ends.length by omega)];rfl
section
variable {key key':List Nat→List Bool} {f:List Bool→List Bool}
end
section
variable {b:Bool} {d M:DfaD}
end
end Go.Proofs.YtfikabecgaappaaGreat
