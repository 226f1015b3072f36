/-
  A queue: a slice of the call's own whose head moves on, 'q = q[1:]', and that grows, 'q = append(q, x)'. Elements of one cell.
  No condition: this text speaks of no program.
-/
import Derived.Test.YtfanhfcamblghaaPq24Lh
namespace Go.Proofs.Ytfanhfcamblghaa
open Go.RowKit
theorem Qs.append {P:Program} {lo:Nat} {w:World} {e:TypeId} {v:Value} {xs:List Value} (h:Qs lo w e v xs) (t ty:TypeId) (i:TypeInfo) (z:Value) (bytes:Nat) (ht:P.underlying t=some (.slice e)) (hi:P.info? e=some i) (hz:i.zero=some z) (hsize:i.size=1) (hby:i.bytes=bytes) (hzs:z.cells.size=1)
  (ad:Addr) (c:Nat) (x:Value) (hx:w.cell? ad=some x) (had:ad.add 0=ad) (h1:x.oneCell'=true) (h63:xs.length+1≤1000000) (hb:bytes≤100) (hlo:lo≤w.heap.size) :
  ∃ v' w',(Builtin.append_ #[t,t] ty #[v,.slice (some ad) 1 c]).run P w = .ok v' w'∧Qs lo w' e v' (xs++[x])∧w.grownBy w' v.ownBlock:=by
 obtain⟨g,off,cap,cur,rfl,hg0,hg,h2,h3,h4,h5⟩:=h
 have hnews:∀ j u,[x][j]? = some u→w.cell? (ad.add j)=some u:=fun j u hu=>by
  cases j with
  | zero=>simp at hu;subst hu;rw[had];exact hx
  | succ j=>simp at hu
 by_cases hroom:xs.length+1≤cap
 ·have hf:=run_firstCells_some (P:=P) w i.size 1 ad 1 c [x] (by simp[hsize]) hnews;have hst:=run_storeCells_at P g (off+xs.length) e [x] 0 cur w hg (by simp;omega) (by simpa using h1);have hadd:(⟨g,off,none⟩:Addr).add xs.length=⟨g,off+xs.length,none⟩:=by unfold Addr.add;split<;>simp_all
  simp only[Nat.add_zero,List.length_singleton] at hst;rw[hsize] at hf;have hcl:off+xs.length<cur.toList.length:=by simp;omega
  have ht1:(List.take (off+xs.length) cur.toList).length=off+xs.length:=by rw[List.length_take];omega
  obtain⟨cs,hcs⟩:∃ cs:Array Value,cs=(List.take (off+xs.length) cur.toList++[x]++List.drop (off+xs.length+1) cur.toList).toArray:=⟨_,rfl⟩;rw[← hcs] at hst;have hrow:=setRow_heap w g cur cs e (0,0) hg;refine⟨.slice (some ⟨g,off,none⟩) (xs.length+1) cap,w.setRow g cs,by simp[Builtin.append_,run_underlying ht,sizeOf,typeInfo,hi,hsize,Builtin.lenOf,hroom,hf,hadd,hst],?_,?_⟩
  ·refine⟨g,off,cap,cs,by simp,hg0,hrow,by simpa using hroom,h3,?_,fun j hj => ?_⟩
   ·rw[hcs];simp only[List.size_toArray,List.length_append,List.length_singleton,List.length_drop,ht1,Array.length_toList];omega
   simp only[List.length_append,List.length_singleton] at hj;rw[hcs];simp only[List.getElem?_toArray];by_cases hjn:j<xs.length
   ·rw[List.append_assoc,List.getElem?_append_left (by omega),List.getElem?_append_left hjn,List.getElem?_take,if_pos (by omega),Array.getElem?_toList];exact h5 j hjn
   obtain rfl:j=xs.length:=by omega
   rw[List.append_assoc,List.getElem?_append_right (by omega),ht1];simp
  exact⟨rfl,rfl,rfl,by simp,fun k _ hk=>setRow_other w g k cs (fun e=>hk (by rw[e];rfl))⟩
 have hgr:=run_append_grow (P:=P) w t ty e i z ht hi hz ⟨g,off,none⟩ xs.length cap xs (by rw[hsize];omega)
  (fun j u hu=>by
   have hj:j<xs.length:=(List.getElem?_eq_some_iff.1 hu).1;have hadd:(⟨g,off,none⟩:Addr).add j=⟨g,off+j,none⟩:=by unfold Addr.add;split<;>simp_all
   rw[hadd,cell_of_row w g _ cur e (0,0) hg,h5 j hj,hu]) ad 1 c [x] (by simp[hsize]) hnews (by omega) (by omega)
  (by have:=nextslicecap_le_wide (need:=xs.length+1) (old:=cap) (by omega);have hm:=Nat.mul_le_mul this (show i.bytes≤100 by omega);omega)
 have hcm:=grownCap_le_maxLen w (xs.length+1) cap e (by unfold maxLen;omega);have hge:=grownCap_ge w (xs.length+1) cap e;have hnew:=heap_alloc_new w.drew (.cells (xs.toArray++[x].toArray++Builtin.zeroCells z.cells (grownCap w (xs.length+1) cap e-(xs.length+1))) e);refine⟨_,_,hgr,⟨w.heap.size,0,_,_,by simp,hlo,hnew,by simpa using hge,hcm,?_,fun j hj => ?_⟩,?_⟩
 ·simp[size_zeroCells,hzs];omega
 ·simp only[Nat.zero_add];rw[← List.getElem?_toArray];have:(xs++[x]).toArray=xs.toArray++[x].toArray:=by simp
  rw[this,Array.getElem?_append_left (by simpa using hj)]
 exact⟨rfl,rfl,rfl,by simp[World.alloc],fun k hk _=>Below.heap_alloc w.drew _ k hk⟩
end Go.Proofs.Ytfanhfcamblghaa
