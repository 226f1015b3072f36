/-
  The walk over the program's ExprOf.
  Condition: the automaton reads as such.
-/
import Derived.Test.YtehmjmjedopkkaaGreatPo32Xpi
set_option maxHeartbeats 8000000
set_option maxRecDepth 100000
namespace Go.Proofs.YtehmjmjedopkkaaGreat
open Go.RowKit
def kleO (d:DfaD):Prop:=Zae d.next d.ends=true∧kleP (minD d)
def Zer (d:DfaD) (L:List (Int × Int)) (b:Bool):Prop:=(kleO d→b=true∧L=(kleE (minD d) (minD d).next.length).post)∧(¬ kleO d→b=false∧L=[])
theorem Zmf (d:DfaD):∃ L b,Zer d L b:=by
 by_cases h:kleO d
 ·exact⟨_,true,fun _=>⟨rfl,rfl⟩,fun h'=>absurd h h'⟩
 exact⟨[],false,fun h'=>absurd h' h,fun _=>⟨rfl,rfl⟩⟩
def RPe (L:List (Int × Int)) (b:Bool) (w:World) (e:Ending) (w':World):Prop:=∃ g c,e = .returned (.tuple #[.slice g L.length c,.bool b])∧Pairs 0 w' (.slice g L.length c) L∧Below w.heap.size w w'
theorem Zhb (d:DfaD) (L:List (Int × Int)) (b:Bool) (hA:Zer d L b) (v:Value) (w:World) (h:DfaR 0 w v d) :
  Calls Tryz.prog 15 #[v] w fun e w'=>RPe L b w e w':=by
 have H:=qh h;obtain⟨v1,v2,rfl,g1,g2⟩:=h;have hS0:=(St.start w).alloc _ rfl #[v1,v2] 32;have e0:=hS0.cell (v:=v1) 0 0 rfl rfl;have e1:=hS0.cell (v:=v2) 0 1 rfl rfl;have HA:=qh hA;replace hS0:=qh hS0;clear g1 g2 hA;cases hok:Zae d.next d.ends
 ·obtain⟨rfl,rfl⟩:=HA.out.2 (fun h=>by have:=h.1;rw[hok] at this;exact absurd this (by decide));have Hhok:=qh hok;clear hok
  go_enter Tryz.func15, Tryz.ntmps15
  go_wp2_with fail;refine(ZaR d _ _ (H.out.below hS0.out.bel) _ Hhok.out).mono ?_;rintro e w1 ⟨rfl,hb1⟩;have HS1:=qh (hS0.out.call hb1);clear hb1 e0 e1;go_wp2
  go_ret2
  exact⟨none,0,rfl,ZeU,HS1.out.bel⟩
 have hmo:=Zjd hok;have Hhok:=qh hok;clear hok
 go_enter Tryz.func15, Tryz.ntmps15
 go_wp2_with fail;refine(ZaR d _ _ (H.out.below hS0.out.bel) _ Hhok.out).mono ?_;rintro e w1 ⟨rfl,hb1⟩;have HS1:=qh (hS0.out.call hb1);clear hb1 e0 e1;have e0:=HS1.out.cell (v:=v1) 0 0 rfl rfl;have e1:=HS1.out.cell (v:=v2) 0 1 rfl rfl;go_wp2_with fail;refine(Zbd d _ _ Hhok.out (H.out.below HS1.out.bel)).mono ?_;rintro e w2 ⟨a1,c1,a2,c2,rfl,hdo,hb2⟩;have HS2:=qh (HS1.out.call hb2);have HDr:=qh (hdo.r.mono (Nat.zero_le _));clear hb2 hdo e0 e1;go_wp2_with fail;refine(Zmp (minD d) _ _ hmo HDr.out).mono ?_;rintro e w3 ⟨g,m,c,q,rfl,hy,hn,hb3⟩;have HS3:=qh (HS2.out.call hb3);clear hb3;by_cases hp:kleP (minD d)
 ·obtain⟨rfl,rfl,hP⟩:=hy hp;obtain⟨rfl,rfl⟩:=HA.out.1 ⟨Hhok.out,hp⟩;have HP:=qh hP;clear hP hy hn;go_wp2
  go_ret2
  exact⟨g,c,rfl,HP.out,HS3.out.bel⟩
 obtain rfl:=hn hp;obtain⟨rfl,rfl⟩:=HA.out.2 (fun h=>hp h.2);clear hy hn;go_wp2
 go_ret2
 exact⟨none,0,rfl,ZeU,HS3.out.bel⟩
theorem Zqo (k z:Int) (xs ys:List (Int × Int)):(mkL k z xs ys).length≤xs.length+ys.length+1:=by
 have h1:(xs++ys++[(k,z)]).length=xs.length+ys.length+1:=by rw[List.length_append,List.length_append];rfl
 have h2:(xs.take (xs.length-1)).length≤xs.length:=by rw[List.length_take];omega
 unfold mkL
 repeat' split
 all_goals first|omega|(show 1≤_;omega)
theorem ZlT {M:List (Int × Int)} {a:Option Addr} {c:Nat} {w w':World} (hS:St w w' [Ent.row 55 2 (.slice a M.length c) M.length (M.flatMap Zab)]):RQm (fun _=>True) M w (.returned (.slice a M.length c)) w' :=
 Zkc hS fun u _ h=>((Zaa (h _ (List.mem_singleton.2 rfl))).sl (by omega)).mono (Nat.zero_le _)
theorem Zgt (k:Int) (xs ys M:List (Int × Int)) (hM:mkL k 0 xs ys=M) (v1 v2:Value) (w:World) (hl1:xs.length≤4000) (hl2:ys.length≤4000) (hne:k=7∨k=8→1≤xs.length) (h1:Pairs 0 w v1 xs) (h2:Pairs 0 w v2 ys) :
  Calls Tryz.prog 49 #[.int .i64 k,v1,v2] w fun e w'=>RQm (fun _=>True) M w e w':=by
 have hml:=Zqo k 0 xs ys;have hmk:=fun (u:World) (p1:Pairs 0 u v1 xs) (p2:Pairs 0 u v2 ys)=>Zmb k 0 xs ys v1 v2 u (by omega) (by omega) hne p1 p2
 rw[hM] at hml hmk;have hml2:M.length≤10000:=by omega
 obtain⟨i0,hi,hz0,hz1,hz2⟩:=info_parts Tryz.infoPt;have Hmk:=qh hmk;have H1:=qh h1;have H2:=qh h2;have HSr:=qh ((St.start w).newRow0 55 2);replace hi:=qh hi;have Hhz0:=qh hz0;clear hz0;have Hhz1:=qh hz1;clear hz1;have Hhz2:=qh hz2;clear hz2;replace hM:=qh hM;clear hml hmk h1 h2 hne hl1 hl2
 go_enter Tryz.func49, Tryz.ntmps49
 go_wp2_with fail;refine(Hmk.out _ (H1.out.below HSr.out.bel) (H2.out.below HSr.out.bel)).mono ?_;rintro e w8 ⟨v8,rfl,hp8,hb8⟩;obtain⟨a8,c8,rfl,-⟩:=hp8.form;have HS8:=qh (HSr.out.call hb8);have HP8:Hid (Sl 0 w8 (.slice a8 M.length c8) M.length 2 (M.flatMap Zab)):=qh hp8;clear hb8 hp8 HSr;go_wp2_with (at_builtin;refine Zal _ rfl _ _ _ rfl _ 55 i0 (.agg #[.int .i64 0,.int .i64 0]) 2 16 Tryz.underlying23 hi.out Hhz0.out Hhz1.out Hhz2.out rfl (by omega) _ 0 _ rfl (HS8.out.row 0 rfl) _ M.length (M.flatMap Zab) rfl HP8.out Zdu (by unfold maxLen;omega) (by omega) HS8.out.size ?_;intro a9 c9 w9 hown hgrow hat;have hS:=(HS8.out.appS 0 rfl hown hgrow hat).pick [0] (by decide);simp only[Nat.zero_add,List.nil_append] at hS;(try simp only[Nat.zero_add]);have HS9:=qh hS;clear hown hgrow hat hS);go_ret;exact ZlT HS9.out
theorem Zlg (xs ys M:List (Int × Int)) (hM:mkL 4 0 xs ys=M) (v1 v2:Value) (w:World) (hl1:xs.length≤4000) (hl2:ys.length≤4000) (h1:Pairs 0 w v1 xs) (h2:Pairs 0 w v2 ys) :
  Calls Tryz.prog 49 #[.int .i64 4,v1,v2] w fun e w'=>RQm (fun _=>True) M w e w':=Zgt 4 xs ys M hM v1 v2 w hl1 hl2 (fun h=>absurd h (by decide)) h1 h2
theorem ZfM (xs ys M:List (Int × Int)) (hM:mkL 5 0 xs ys=M) (v1 v2:Value) (w:World) (hl1:xs.length≤4000) (hl2:ys.length≤4000) (h1:Pairs 0 w v1 xs) (h2:Pairs 0 w v2 ys) :
  Calls Tryz.prog 49 #[.int .i64 5,v1,v2] w fun e w'=>RQm (fun _=>True) M w e w':=Zgt 5 xs ys M hM v1 v2 w hl1 hl2 (fun h=>absurd h (by decide)) h1 h2
theorem ZcV {u:World} {a:Option Addr}:Pairs 0 u (.slice a 0 0) []:=⟨rfl,a,0,rfl,Nat.zero_le _,Nat.zero_le _,fun h0=>absurd h0 (Nat.lt_irrefl 0)⟩
end Go.Proofs.YtehmjmjedopkkaaGreat
