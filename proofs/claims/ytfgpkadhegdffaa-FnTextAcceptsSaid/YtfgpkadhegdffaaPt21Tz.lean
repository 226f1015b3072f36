/-
  The walk over the reference's l20Word: a text is drawn, most often a word (weak: some text of at most ten bytes).
  Conditions: the reader is at hand, its bytes read as such.
-/
import Derived.Test.YtfgpkadhegdffaaRows
import Derived.Test.YtfgpkadhegdffaaPt15Tac
import Derived.Test.YtfgpkadhegdffaaPt20Lm
set_option maxHeartbeats 8000000
set_option maxRecDepth 100000
namespace Go.Proofs.Ytfgpkadhegdffaa
open Go.RowKit
theorem Ze1 (u:List Nat) {v:ByteArray} {l:List Nat} (hv:v=txB l):txB u++v=txB (u++l):=by rw[hv,Zbx]
theorem ZeF (u:List Nat) (v:ByteArray) (hu:u.length≤1000) (hv:v.size≤1000):(∀ w':World,(Op.stringOp .add (txB u) v).run Try.prog w' = .ok (.string (txB u++v)) w')∧¬ 9223372036854775807<(txB u).size+v.size:=by have h:=Zah u;exact⟨fun w'=>run_string_add_sum w' _ _ (by omega),by omega⟩
theorem Zdh {l:List Nat} {c:Nat} (h:isT l) (hc:c<256):isT (l++[c]):=fun b hb=>by
 rcases List.mem_append.1 hb with hb|hb
 ·exact h b hb
 rw[List.mem_singleton.1 hb];exact hc
theorem ZdI (bs:List Nat) (vb:Value) (b p n:Nat) (w0 w:World) (X:Ent) (hb:Bytes 0 w0 vb bs) (hlen:bs.length≤2000) (hp:p≤800000) (hn1:n≤10000) (hS:St w0 w [RdE b vb p,X]) :
  Calls Try.prog 40 #[.pointer (some ⟨b,0,none⟩),.int .i64 ((n:Nat):Int)] w fun e w'=>∃ (l:List Nat) (p':Nat),isT l∧l.length≤10∧p'≤p+20∧e = .returned (.string (txB l))∧St w0 w' [RdE b vb p',X]:=by
 have Hb:=qh hb;have HS:=qh hS;clear hb hS
 go_enter Try.func40, Try.ntmps40
 go_wp2_with fail;refine(Zap bs vb b p 9 w0 _ _ Hb.out hlen (by omega) (by omega) (by omega) HS.out).mono ?_;rintro e w1 ⟨k0,hk0,rfl,hS1⟩;have HS1:=qh hS1;clear hS1;go_wp2
 go_loopw [5,6] (fun vs vk wr=>∃ (k pq:Nat) (l:List Nat),vk = .int .i64 k∧vs = .string (txB l)∧l.length+k≤8∧pq+k≤p+9∧isT l∧St w0 wr [RdE b vb pq,X])
  (fun _ vk _=>(intOf vk).toNat)
 case atStart=>exact⟨k0,p+1,[],rfl,rfl,by simp;omega,by omega,(fun b hb=>by cases hb),HS1.out⟩
 case round =>
  obtain⟨k,pq,l,rfl,rfl,hk,hpq,ht,hS⟩:=hrel;have HS2:=qh hS;have Ht:=qh ht;clear hS ht;by_cases hlt:0<k
  ·go_wp2_with fail;refine(Zap bs vb b pq 3 w0 _ _ Hb.out hlen (by omega) (by omega) (by omega) HS2.out).mono ?_;rintro e w2 ⟨c,hc,rfl,hS3⟩;have HS3:=qh (hS3.alloc_ (.cells #[.int .u8 (97+(c:Int))] 5));have hw1:IntKind.i64.wrap (97+(c:Int))=97+(c:Int):=IntWalk.i64_in _ (by omega);have hw2:=Zdo c hc;have hcv:=ZeE c hc (w2.alloc (.cells #[.int .u8 (97+(c:Int))] 5)) w2.heap.size 1 (ZeX _ _ _ 0);obtain⟨hadd,hnlt⟩:=ZeF l (txB [97+c]) (by omega) (by rw[Zah];simp);clear hS3;go_wp2;go_roundw
   case rel =>refine⟨k-1,pq+1,l++[97+c],by congr 1;omega,by rw[Zbx],by rw[List.length_append];simp;omega,by omega,Zdh Ht.out (by omega),HS3.out⟩
   case measure=>simp[intOf];omega
  have hz:((0:Int)<(k:Int))=False:=by simp;omega
  have hz2:(0<k)=False:=by simp;omega
  clear hlt;go_wp2_with fail;refine(Zfz bs vb b pq n w0 _ _ Hb.out hlen (by omega) hn1 HS2.out).mono ?_;rintro e w2 ⟨q,p2,hp2,rfl,hS3⟩;have HS3:=qh hS3;clear hS3;cases q
  ·go_wp2;go_ret;exact⟨l,p2,Ht.out,by omega,by omega,rfl,HS3.out⟩
  obtain⟨hadd1,hnlt1⟩:=ZeF l { data:=#[100] } (by omega) (by decide);obtain⟨hadd2,hnlt2⟩:=ZeF l { data:=#[65] } (by omega) (by decide);obtain⟨u1,hu1⟩:∃ u1,u1=txB l++{ data:=#[100] }:=⟨_,rfl⟩;obtain⟨u2,hu2⟩:∃ u2,u2=txB l++{ data:=#[65] }:=⟨_,rfl⟩;rw[← hu1] at hadd1;rw[← hu2] at hadd2;have he1:u1=txB (l++[100]):=by rw[hu1];exact Ze1 l rfl
  have he2:u2=txB (l++[65]):=by rw[hu2];exact Ze1 l rfl
  have HS4:=qh (HS3.out.alloc _ rfl #[.string u1,.string u2,.string { data:=#[97,97,97,97,97,97,97,97,97] }] 9);replace hu1:=qh hu1;have Hhu2:=qh hu2;clear hu2;replace he1:=qh he1;have Hhe2:=qh he2;clear he2;go_wp2_with fail;refine(Zap bs vb b p2 3 w0 _ _ Hb.out hlen (by omega) (by omega) (by omega) (St.pack (A:=[RdE b vb p2]) (R:=[X,Ent.box w2.heap.size #[.string u1,.string u2,.string { data:=#[97,97,97,97,97,97,97,97,97] }] 9]) HS4.out)).mono ?_;rintro e w5 ⟨j,hj,rfl,hSp⟩;have HS5:=qh (St.unpack (A:=[RdE b vb p2]) (A':=[RdE b vb (p2+1)]) (R:=[X,Ent.box w2.heap.size #[.string u1,.string u2,.string { data:=#[97,97,97,97,97,97,97,97,97] }] 9]) HS4.out hSp);have c0:=HS5.out.cell (v:=.string u1) 2 0 rfl rfl;have c1:=HS5.out.cell (v:=.string u2) 2 1 rfl rfl;have c2:=HS5.out.cell (v:=.string { data:=#[97,97,97,97,97,97,97,97,97] }) 2 2 rfl rfl;clear hSp;obtain rfl|rfl|rfl:j=0∨j=1∨j=2:=by omega
  ·go_wp2;go_ret;exact⟨l++[100],p2+1,Zdh Ht.out (by omega),by rw[List.length_append];simp;omega,by omega,by rw[he1.out];rfl,HS5.out.pick [0,1] (by decide)⟩
  ·go_wp2;go_ret;exact⟨l++[65],p2+1,Zdh Ht.out (by omega),by rw[List.length_append];simp;omega,by omega,by rw[Hhe2.out];rfl,HS5.out.pick [0,1] (by decide)⟩
  go_wp2;go_ret;exact⟨[97,97,97,97,97,97,97,97,97],p2+1,(fun b hb=>by simp at hb;omega),by decide,by omega,rfl,HS5.out.pick [0,1] (by decide)⟩
end Go.Proofs.Ytfgpkadhegdffaa
namespace Go.Proofs.Ytfgpkadhegdffaa
open Go.ChangeShapes Go.WideShapes Go.ChangeAt Go.RowKit Go.Joins
section
variable {H:Type} {enc:TypeId × Value→H} {W:World}
end
end Go.Proofs.Ytfgpkadhegdffaa
namespace Go.Proofs.Ytfgpkadhegdffaa
open Go.ChangeShapes Go.WideShapes Go.ChangeAt Go.RowKit Go.Joins
theorem Try.cellsByte:Try.prog.cellsOf 5 = 1:=by kernel_rfl
theorem Try.recLBytes:Try.prog.readableRec 22 = true:=by kernel_rfl
theorem Try.rowLBytes:(22:TypeId)<Try.prog.types.size:=of_decide_eq_true (by kernel_rfl)
section
variable {H:Type} {enc:TypeId × Value→H} {W:World}
theorem Zd5 {held:Bool} {v:Value} {d:DataW H} {p:List MemPlace} (h:DataW.Trod enc Try.prog W 0 (fun _=>true) held 22 v d p) (hv:v.cells.toList=[v]):∃ bs,Bytes 0 W v bs:=by obtain⟨fuel,hf⟩:=h;obtain⟨u,bs,hu,hx⟩:=ZdB Try.underlying22 Try.underlying5 Try.cellsByte hf;rw[hv] at hu;simp only[List.cons.injEq,and_true] at hu;subst hu;exact⟨bs,hx⟩
end
end Go.Proofs.Ytfgpkadhegdffaa
namespace Go.Proofs.Ytfgpkadhegdffaa
open Go.RowKit
def PtH (E:Ent) (v:Value) (es:List (Int × Int)):Prop:=∀ w,E.holds w→(∀ k,E.foot k→k<w.heap.size)→Pairs 0 w v es
theorem PtH.r {w0 w:World} {L:List Ent} {E:Ent} {v:Value} {es:List (Int × Int)} (h:PtH E v es) (hS:St w0 w L) (i:Nat) (hx:L[i]? = some E):Pairs 0 w v es :=
 h w (hS.has i _ hx).1 fun k hk=>((hS.has i _ hx).2 k hk).2
theorem ZgB (a:Option Addr) (c:Nat) (es:List (Int × Int)):PtH (ZaS a c es) (.slice a es.length c) es:=fun w h _=>((Zaf h).sl (by omega)).mono (Nat.zero_le _)
inductive Pth (ms:List (Int × Int × Int)):Int→List Nat→Int→Prop
 | here (s:Int):Pth ms s [] s
 | eps {s t u:Int} {w:List Nat}:(s,-1,t)∈ms→Pth ms t w u→Pth ms s w u
 | step {s t u:Int} {c:Nat} {w:List Nat}:(s,(c:Int),t)∈ms→Pth ms t w u→Pth ms s (c::w) u
theorem Pth.mono {ms ns:List (Int × Int × Int)} (hs:∀ m∈ms,m∈ns) {s t:Int} {x:List Nat} (h:Pth ms s x t):Pth ns s x t:=by
 induction h with
 | here s=>exact .here s
 | eps hm _ ih=>exact .eps (hs _ hm) ih
 | step hm _ ih=>exact .step (hs _ hm) ih
theorem Pth.in {ms:List (Int × Int × Int)} {n:Nat} (hm:mvIn n ms) {s t:Int} {x:List Nat} (h:Pth ms s x t) (hs:0≤s∧s<(n:Int)):0≤t∧t<(n:Int):=by
 induction h with
 | here s=>exact hs
 | eps h _ ih=>exact ih (hm _ h).2
 | step h _ ih=>exact ih (hm _ h).2
end Go.Proofs.Ytfgpkadhegdffaa
namespace Go.Proofs.Ytfgpkadhegdffaa
open Go.RowKit
theorem ZfX (l:List Nat) (k:Nat):(txB l).extract 0 k=txB (l.take k):=by apply ByteArray.ext;simp[txB,ByteArray.data_extract,List.map_take]
theorem ZfY (l:List Nat) (k:Nat):(txB l).extract k (txB l).size=txB (l.drop k):=by apply ByteArray.ext;rw[Zah];simp only[txB,ByteArray.data_extract,List.map_drop,List.extract_toArray,List.extract_eq_take_drop];rw[List.take_of_length_le (by simp)]
end Go.Proofs.Ytfgpkadhegdffaa
