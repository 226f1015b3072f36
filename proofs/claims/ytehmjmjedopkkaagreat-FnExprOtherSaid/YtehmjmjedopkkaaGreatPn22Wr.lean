/-
  The walks over the program's reader of expressions: atom, star, level. They read as the plain reader rdP does.
  Conditions: the reader is at hand, its text is one of bytes, at most 120.
-/
import Derived.Test.YtehmjmjedopkkaaGreatPn20Dr
set_option maxHeartbeats 8000000
set_option maxRecDepth 100000
namespace Go.Proofs.YtehmjmjedopkkaaGreat
open Go.RowKit
theorem ZgJ (u v:List Nat):txB u++txB v=txB (u++v):=by apply ByteArray.ext;simp[txB,ByteArray.data_append]
theorem ZlJ (u:List Nat) {v:ByteArray} {l:List Nat} (hv:v=txB l):txB u++v=txB (u++l):=by rw[hv,ZgJ]
theorem Zhj (c:Nat) (hc:c<3):strOfNums [97+(c:Int)]=txB [97+c]:=by
 obtain rfl|rfl|rfl:c=0∨c=1∨c=2:=by omega
 all_goals rfl
theorem Zop (c:Nat) (hc:c<3) (w:World) (b cap:Nat) (h:w.cell? ⟨b,0,none⟩=some (.int .u8 (97+(c:Int)))) :
  (convert 22 9 (.slice (some ⟨b,0,none⟩) 1 cap)).run Tryz.prog w = .ok (.string (txB [97+c])) w:=by
 rw[← Zhj c hc]
 exact run_convert_bytes_arg w 22 5 Tryz.underlying22 Tryz.underlying5 b 0 1 cap [97+(c:Int)] rfl (fun i hi=>by
  obtain rfl:i=0:=by omega
  simpa using h) 9 Tryz.underlying9
theorem ZlG (c:Nat) (hc:c<3):IntKind.u8.wrap (97+(c:Int))=97+(c:Int):=by
 obtain rfl|rfl|rfl:c=0∨c=1∨c=2:=by omega
 all_goals rfl
theorem Zny (u:List Nat) (v:ByteArray) (hu:u.length≤1000) (hv:v.size≤1000):(∀ w':World,(Op.stringOp .add (txB u) v).run Tryz.prog w' = .ok (.string (txB u++v)) w')∧¬ 9223372036854775807<(txB u).size+v.size:=by have h:=ZcS u;exact⟨fun w'=>run_string_add_sum w' _ _ (by omega),by omega⟩
theorem ZhH {l:List Nat} {c:Nat} (h:isT l) (hc:c<256):isT (l++[c]):=fun b hb=>by
 rcases List.mem_append.1 hb with hb|hb
 ·exact h b hb
 rw[List.mem_singleton.1 hb];exact hc
theorem ZiC (bs:List Nat) (vb:Value) (b p n:Nat) (w0 w:World) (X:Ent) (hb:Bytes 0 w0 vb bs) (hlen:bs.length≤2000) (hp:p≤800000) (hn1:n≤10000) (hS:St w0 w [RdE b vb p,X]) :
  Calls Tryz.prog 50 #[.pointer (some ⟨b,0,none⟩),.int .i64 ((n:Nat):Int)] w fun e w'=>∃ (l:List Nat) (p':Nat),isT l∧l.length≤10∧p'≤p+20∧e = .returned (.string (txB l))∧St w0 w' [RdE b vb p',X]:=by
 have Hb:=qh hb;have HS:=qh hS;clear hb hS
 go_enter Tryz.func50, Tryz.ntmps50
 go_wp2_with fail;refine(Zaz bs vb b p 9 w0 _ _ Hb.out hlen (by omega) (by omega) (by omega) HS.out).mono ?_;rintro e w1 ⟨k0,hk0,rfl,hS1⟩;have HS1:=qh hS1;clear hS1;go_wp2
 go_loopw [5,6] (fun vs vk wr=>∃ (k pq:Nat) (l:List Nat),vk = .int .i64 k∧vs = .string (txB l)∧l.length+k≤8∧pq+k≤p+9∧isT l∧St w0 wr [RdE b vb pq,X])
  (fun _ vk _=>(intOf vk).toNat)
 case atStart=>exact⟨k0,p+1,[],rfl,rfl,by simp;omega,by omega,(fun b hb=>by cases hb),HS1.out⟩
 case round =>
  obtain⟨k,pq,l,rfl,rfl,hk,hpq,ht,hS⟩:=hrel;have HS2:=qh hS;have Ht:=qh ht;clear hS ht;by_cases hlt:0<k
  ·go_wp2_with fail;refine(Zaz bs vb b pq 3 w0 _ _ Hb.out hlen (by omega) (by omega) (by omega) HS2.out).mono ?_;rintro e w2 ⟨c,hc,rfl,hS3⟩;have HS3:=qh (hS3.alloc_ (.cells #[.int .u8 (97+(c:Int))] 5));have hw1:IntKind.i64.wrap (97+(c:Int))=97+(c:Int):=IntWalk.i64_in _ (by omega);have hw2:=ZlG c hc;have hcv:=Zop c hc (w2.alloc (.cells #[.int .u8 (97+(c:Int))] 5)) w2.heap.size 1 (Zhb _ _ _ 0);obtain⟨hadd,hnlt⟩:=Zny l (txB [97+c]) (by omega) (by rw[ZcS];simp);clear hS3;go_wp2;go_roundw
   case rel =>refine⟨k-1,pq+1,l++[97+c],by congr 1;omega,by rw[ZgJ],by rw[List.length_append];simp;omega,by omega,ZhH Ht.out (by omega),HS3.out⟩
   case measure=>simp[intOf];omega
  have hz:((0:Int)<(k:Int))=False:=by simp;omega
  have hz2:(0<k)=False:=by simp;omega
  clear hlt;go_wp2_with fail;refine(ZjA bs vb b pq n w0 _ _ Hb.out hlen (by omega) hn1 HS2.out).mono ?_;rintro e w2 ⟨q,p2,hp2,rfl,hS3⟩;have HS3:=qh hS3;clear hS3;cases q
  ·go_wp2;go_ret;exact⟨l,p2,Ht.out,by omega,by omega,rfl,HS3.out⟩
  obtain⟨hadd1,hnlt1⟩:=Zny l { data:=#[100] } (by omega) (by decide);obtain⟨hadd2,hnlt2⟩:=Zny l { data:=#[65] } (by omega) (by decide);obtain⟨u1,hu1⟩:∃ u1,u1=txB l++{ data:=#[100] }:=⟨_,rfl⟩;obtain⟨u2,hu2⟩:∃ u2,u2=txB l++{ data:=#[65] }:=⟨_,rfl⟩;rw[← hu1] at hadd1;rw[← hu2] at hadd2;have he1:u1=txB (l++[100]):=by rw[hu1];exact ZlJ l rfl
  have he2:u2=txB (l++[65]):=by rw[hu2];exact ZlJ l rfl
  have HS4:=qh (HS3.out.alloc _ rfl #[.string u1,.string u2,.string { data:=#[97,97,97,97,97,97,97,97,97] }] 9);replace hu1:=qh hu1;have Hhu2:=qh hu2;clear hu2;replace he1:=qh he1;have Hhe2:=qh he2;clear he2;go_wp2_with fail;refine(Zaz bs vb b p2 3 w0 _ _ Hb.out hlen (by omega) (by omega) (by omega) (St.pack (A:=[RdE b vb p2]) (R:=[X,Ent.box w2.heap.size #[.string u1,.string u2,.string { data:=#[97,97,97,97,97,97,97,97,97] }] 9]) HS4.out)).mono ?_;rintro e w5 ⟨j,hj,rfl,hSp⟩;have HS5:=qh (St.unpack (A:=[RdE b vb p2]) (A':=[RdE b vb (p2+1)]) (R:=[X,Ent.box w2.heap.size #[.string u1,.string u2,.string { data:=#[97,97,97,97,97,97,97,97,97] }] 9]) HS4.out hSp);have c0:=HS5.out.cell (v:=.string u1) 2 0 rfl rfl;have c1:=HS5.out.cell (v:=.string u2) 2 1 rfl rfl;have c2:=HS5.out.cell (v:=.string { data:=#[97,97,97,97,97,97,97,97,97] }) 2 2 rfl rfl;clear hSp;obtain rfl|rfl|rfl:j=0∨j=1∨j=2:=by omega
  ·go_wp2;go_ret;exact⟨l++[100],p2+1,ZhH Ht.out (by omega),by rw[List.length_append];simp;omega,by omega,by rw[he1.out];rfl,HS5.out.pick [0,1] (by decide)⟩
  ·go_wp2;go_ret;exact⟨l++[65],p2+1,ZhH Ht.out (by omega),by rw[List.length_append];simp;omega,by omega,by rw[Hhe2.out];rfl,HS5.out.pick [0,1] (by decide)⟩
  go_wp2;go_ret;exact⟨[97,97,97,97,97,97,97,97,97],p2+1,(fun b hb=>by simp at hb;omega),by decide,by omega,rfl,HS5.out.pick [0,1] (by decide)⟩
end Go.Proofs.YtehmjmjedopkkaaGreat
