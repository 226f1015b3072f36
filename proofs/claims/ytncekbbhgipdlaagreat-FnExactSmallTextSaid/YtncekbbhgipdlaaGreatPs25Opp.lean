/-
  The walks over the program's reader of expressions: atom, star, level. They read as the plain reader rdP does.
  Conditions: the reader is at hand, its text is one of bytes, at most 120.
-/
import Derived.Test.YtncekbbhgipdlaaGreatPs17Ot
import Derived.Test.YtncekbbhgipdlaaGreatPs24Lm
set_option maxHeartbeats 16000000
set_option maxRecDepth 100000
namespace Go.Proofs.YtncekbbhgipdlaaGreat
open Go.RowKit
def RRd (x:PS) (r:List Nat) (b:Nat) (X:Ent) (w0:World) (e:Ending) (w':World):Prop :=
 ∃ a c r',e = .returned (.slice a x.1.length c)∧(x.2.2=false→r'=x.2.1)∧r'.length≤r.length∧isT r'∧St w0 w' [Ent.box b #[.string (txB r'),.bool x.2.2] 54,X,Ent.row 62 2 (.slice a x.1.length c) x.1.length (x.1.flatMap Zaa)]
def ZpK (n:Nat):Prop:=∀ (r:List Nat) (b:Nat) (w0 w:World) (X:Ent),fuP 6 r≤n→r.length≤120→isT r→St w0 w [Ent.box b #[.string (txB r),.bool false] 54,X]→Calls Tryz.prog 115 #[.pointer (some ⟨b,0,none⟩)] w (RRd (rdP jI n 6 r) r b X w0)
def ZpI (n:Nat):Prop:=∀ (r:List Nat) (b:Nat) (w0 w:World) (X:Ent),fuP 5 r≤n→r.length≤120→isT r→St w0 w [Ent.box b #[.string (txB r),.bool false] 54,X]→Calls Tryz.prog 71 #[.pointer (some ⟨b,0,none⟩)] w (RRd (rdP jI n 5 r) r b X w0)
def ZhK (n:Nat):Prop:=∀ (l:Nat) (r:List Nat) (b:Nat) (w0 w:World) (X:Ent),1≤l→l≤4→fuP l r≤n→r.length≤120→isT r→St w0 w [Ent.box b #[.string (txB r),.bool false] 54,X]→Calls Tryz.prog 30 #[.pointer (some ⟨b,0,none⟩),.int .i64 (l:Int)] w (RRd (rdP jI n l r) r b X w0)
theorem Zck {c:Nat} {r:List Nat} (h:isT (c::r)):isT r∧c<256:=⟨fun x hx=>h x (List.mem_cons_of_mem _ hx),h c (by simp)⟩
theorem ZdM (c:Nat) (r:List Nat):∀ w':World,(Instr.slice 9 (.string (txB (c::r))) (some (.int .i64 1)) none none).run Tryz.prog w' = .ok (.string (txB r)) w':=Znu (c::r) 1 1 rfl (by simp)
theorem RRd.nil {r r':List Nat} {b:Nat} {X:Ent} {w0 w:World} (r1:List Nat) (hl:r'.length≤r.length) (ht:isT r') (hS:St w0 w [Ent.box b #[.string (txB r'),.bool true] 54,X]):RRd ([],r1,true) r b X w0 (.returned (.slice none 0 0)) w :=
 ⟨none,0,r',rfl,(fun h=>by cases h),hl,ht,hS.nilRow 62 2⟩
theorem ZnI (n:Nat) (hL:ZhK n):ZpK (n+1):=by
 intro r b w0 w X hn hl ht hS;have HS:=qh hS;have f1:=hS.fr 0 1 rfl;have k1:=hS.cell (v:=.bool false) 0 1 rfl rfl;clear hS;cases r with
 | nil =>
  have HSf:=qh (HS.out.set 0 rfl 1 (.bool true));have HN:=qh (RRd.nil (r:=[]) (b:=b) [] (Nat.le_refl _) ht HSf.out);replace ht:=qh ht
  go_enter Tryz.func115, Tryz.ntmps115
  go_wp2_with (go_at_call 70;refine(Zay [] false b _ ht.out (HS.out.cell (v:=.string (txB [])) 0 0 rfl rfl) (HS.out.cell (v:=.bool false) 0 1 rfl rfl) (0) rfl).mono ?_;rintro e w' ⟨rfl,rfl⟩);go_ret;exact HN.out
 | cons c r1 =>
  obtain⟨ht1,hc⟩:=Zck ht;have hl1:r1.length≤119:=by simp at hl;omega
  have hle1:r1.length≤(c::r1).length:=by simp
  have hcI:(0:Int)≤(c:Int)∧(c:Int)<256:=by omega
  by_cases c0:c=0
  ·subst c0;have HSf:=qh (HS.out.set 0 rfl 1 (.bool true));have HN:=qh (RRd.nil (r:=0::r1) (b:=b) r1 (Nat.le_refl _) ht HSf.out);have hrd:rdP jI (n+1) 6 (0::r1)=([],r1,true):=rfl;rw[hrd];replace ht:=qh ht;have Hhrd:=qh hrd;clear hrd
   go_enter Tryz.func115, Tryz.ntmps115
   go_wp2_with (go_at_call 70;refine(Zay (0::r1) false b _ ht.out (HS.out.cell (v:=.string (txB (0::r1))) 0 0 rfl rfl) (HS.out.cell (v:=.bool false) 0 1 rfl rfl) (0) rfl).mono ?_;rintro e w' ⟨rfl,rfl⟩);go_ret;exact HN.out
  have f0:=HS.out.fr 0 0 rfl;have k0:=HS.out.cell (v:=.string (txB (c::r1))) 0 0 rfl rfl;have hcut:=ZdM c r1;have HS1:=qh (show St w0 _ [Ent.box b #[.string (txB r1),.bool false] 54,X] from HS.out.set 0 rfl 0 (.string (txB r1)));have hrd:rdP jI (n+1) 6 (c::r1)=match Ze7 c with|some p=>([p],r1,false)|none=>if c=40 then brkP (rdP jI n 1 r1) else([],r1,true):=rfl
  have k1':=HS1.out.cell (v:=.bool false) 0 1 rfl rfl;have f1':=HS1.out.fr 0 1 rfl;replace ht:=qh ht;by_cases c48:c=48
  ·subst c48;rw[show rdP jI (n+1) 6 (48::r1)=([(1,0)],r1,false) from hrd];have Hhrd:=qh hrd;clear hrd
   go_enter Tryz.func115, Tryz.ntmps115
   go_wp2_with (first
    | (go_at_call 70;refine(Zay (48::r1) false b _ ht.out (HS.out.cell (v:=.string (txB (48::r1))) 0 0 rfl rfl) (HS.out.cell (v:=.bool false) 0 1 rfl rfl) (48) rfl).mono ?_;rintro e w' ⟨rfl,rfl⟩)
    | (go_at_call 93;refine(ZbL 1 _).mono ?_;rintro e w2 ⟨a2,c2,rfl,hS2⟩;have HS2:=qh (HS1.out.cat hS2);clear hS2))
   go_ret;exact⟨a2,c2,r1,rfl,fun _=>rfl,hle1,ht1,HS2.out⟩
  by_cases c49:c=49
  ·subst c49;rw[show rdP jI (n+1) 6 (49::r1)=([(2,0)],r1,false) from hrd];have Hhrd:=qh hrd;clear hrd
   go_enter Tryz.func115, Tryz.ntmps115
   go_wp2_with (first
    | (go_at_call 70;refine(Zay (49::r1) false b _ ht.out (HS.out.cell (v:=.string (txB (49::r1))) 0 0 rfl rfl) (HS.out.cell (v:=.bool false) 0 1 rfl rfl) (49) rfl).mono ?_;rintro e w' ⟨rfl,rfl⟩)
    | (go_at_call 93;refine(ZbL 2 _).mono ?_;rintro e w2 ⟨a2,c2,rfl,hS2⟩;have HS2:=qh (HS1.out.cat hS2);clear hS2))
   go_ret;exact⟨a2,c2,r1,rfl,fun _=>rfl,hle1,ht1,HS2.out⟩
  by_cases cl:97≤c∧c≤99
  ·have hp:Ze7 c=some (3,(c:Int)-97):=by unfold Ze7;rw[if_neg c48,if_neg c49,if_pos cl]
   rw[hp] at hrd;rw[hrd];have hin:inB (c:Int) 97 99=true:=by unfold inB;simp;omega
   have hw1:IntKind.u8.wrap ((c:Int)-97)=(c:Int)-97:=IntWalk.u8_in _ (by omega);have hw2:IntKind.i64.wrap ((c:Int)-97)=(c:Int)-97:=IntWalk.i64_in _ (by omega);have hw3:IntKind.i64.wrap (c:Int)=(c:Int):=IntWalk.i64_in _ (by omega);have n0:((c:Int)=0)=False:=by simp;omega
   have n1:((c:Int)=48)=False:=by simp;omega
   have n2:((c:Int)=49)=False:=by simp;omega
   have HS2:=qh (((HS1.out.alloc (w.heap.size) (by simp) #[.int .i64 3,.int .i64 ((c:Int)-97)] 62).boxrow 2 1 2 [.int .i64 3,.int .i64 ((c:Int)-97)] rfl rfl (by unfold maxLen;omega)));have Hhrd:=qh hrd;clear hrd;replace hin:=qh hin;have Hhp:=qh hp;clear hp
   go_enter Tryz.func115, Tryz.ntmps115
   go_wp2_with (first
    | (go_at_call 70;refine(Zay (c::r1) false b _ ht.out (HS.out.cell (v:=.string (txB (c::r1))) 0 0 rfl rfl) (HS.out.cell (v:=.bool false) 0 1 rfl rfl) (c) rfl).mono ?_;rintro e w' ⟨rfl,rfl⟩)
    | (go_at_call 110;refine(Zbf _ _ _ _ _ hin.out).mono ?_;rintro e w' ⟨rfl,rfl⟩))
   go_ret;exact⟨_,_,r1,rfl,fun _=>rfl,hle1,ht1,HS2.out⟩
  have hp:Ze7 c=none:=by unfold Ze7;rw[if_neg c48,if_neg c49,if_neg cl]
  rw[hp] at hrd;have hin:inB (c:Int) 97 99=false:=by unfold inB;simp;omega
  have hw3:IntKind.i64.wrap (c:Int)=(c:Int):=IntWalk.i64_in _ (by omega);have n0:((c:Int)=0)=False:=by simp;omega
  have n1:((c:Int)=48)=False:=by simp;omega
  have n2:((c:Int)=49)=False:=by simp;omega
  have Hhp:=qh hp;clear hp;replace hin:=qh hin;by_cases c40:c=40
  ·subst c40;rw[show rdP jI (n+1) 6 (40::r1)=brkP (rdP jI n 1 r1) from hrd];obtain⟨x,hx⟩:=eJ (rdP jI n 1 r1);have hL1:=fun u (hu:St w0 u [Ent.box b #[.string (txB r1),.bool false] 54,X])=>hL 1 r1 b w0 u X (by omega) (by omega) (by unfold fuP at hn ⊢;simp at hn;omega) (by omega) ht1 hu
   rw[hx] at hL1 ⊢;obtain⟨es,q,fl⟩:=x;have HL1:=qh hL1;have Hhrd:=qh hrd;clear hrd;have Hhx:=qh hx;clear hx;clear n0 n1 n2 hw3 cl c48 c49 c0 hL1
   go_enter Tryz.func115, Tryz.ntmps115
   go_wp2_with (first
    | (go_at_call 70;refine(Zay (40::r1) false b _ ht.out (HS.out.cell (v:=.string (txB (40::r1))) 0 0 rfl rfl) (HS.out.cell (v:=.bool false) 0 1 rfl rfl) (40) rfl).mono ?_;rintro e w' ⟨rfl,rfl⟩)
    | (go_at_call 110;refine(Zbf _ _ _ _ _ hin.out).mono ?_;rintro e w' ⟨rfl,rfl⟩)
    | (go_at_call 30;refine(HL1.out _ HS1.out).mono ?_;rintro e w2 ⟨a3,c3,r3,rfl,hr3,hl3,ht3,hS3⟩))
   have HS3:=qh hS3;have hle3:r3.length≤(40::r1).length:=by simp;omega
   have k3:=hS3.cell (v:=.bool fl) 0 1 rfl rfl;have f3:=hS3.fr 0 1 rfl;have k4:=hS3.cell (v:=.string (txB r3)) 0 0 rfl rfl;have f4:=hS3.fr 0 0 rfl;clear hS3;have Hht3:=qh ht3;cases fl with
   | true =>
    have hb:brkP (es,q,true)=([],q,true):=by cases q<;>rfl
    have HSf:=qh (RRd.nil (r:=40::r1) (b:=b) q hle3 ht3 ((HS3.out.pick [0,1] (by decide)).set 0 rfl 1 (.bool true)));replace hb:=qh hb;clear hr3 k4 f4 ht3;go_wp2_with (go_at_call 70;refine(Zay r3 true b _ Hht3.out (HS3.out.cell (v:=.string (txB r3)) 0 0 rfl rfl) (HS3.out.cell (v:=.bool true) 0 1 rfl rfl) (0) rfl).mono ?_;rintro e w' ⟨rfl,rfl⟩);go_ret;rw[hb.out];exact HSf.out
   | false =>
    obtain rfl:=hr3 rfl;cases r3 with
    | nil =>have HSf:=qh (RRd.nil (r:=40::r1) (b:=b) [] hle3 ht3 ((HS3.out.pick [0,1] (by decide)).set 0 rfl 1 (.bool true)));clear hr3 k4 f4 ht3;go_wp2_with (go_at_call 70;refine(Zay [] false b _ Hht3.out (HS3.out.cell (v:=.string (txB [])) 0 0 rfl rfl) (HS3.out.cell (v:=.bool false) 0 1 rfl rfl) (0) rfl).mono ?_;rintro e w' ⟨rfl,rfl⟩);go_ret;exact HSf.out
    | cons d r4 =>
     obtain⟨ht4,hd⟩:=Zck ht3;by_cases h41:d=41
     ·subst h41;have hcut4:=ZdM 41 r4;have HS4:=qh (show St w0 _ [Ent.box b #[.string (txB r4),.bool false] 54,X,Ent.row 62 2 (.slice a3 es.length c3) es.length (es.flatMap Zaa)] from HS3.out.set 0 rfl 0 (.string (txB r4)));have hle4:r4.length≤(40::r1).length:=by simp at hle3 ⊢;omega
      clear hr3 ht3;go_wp2_with (go_at_call 70;refine(Zay (41::r4) false b _ Hht3.out (HS3.out.cell (v:=.string (txB (41::r4))) 0 0 rfl rfl) (HS3.out.cell (v:=.bool false) 0 1 rfl rfl) (41) rfl).mono ?_;rintro e w' ⟨rfl,rfl⟩);go_ret;exact⟨a3,c3,r4,rfl,fun _=>rfl,hle4,ht4,HS4.out⟩
     have hb:brkP (es,d::r4,false)=([],d::r4,true):=if_neg h41;have HSf:=qh (RRd.nil (r:=40::r1) (b:=b) (d::r4) hle3 ht3 ((HS3.out.pick [0,1] (by decide)).set 0 rfl 1 (.bool true)));have n4:((d:Int)=41)=False:=by simp;omega
     replace hb:=qh hb;clear hr3 k4 f4 ht3;go_wp2_with (go_at_call 70;refine(Zay (d::r4) false b _ Hht3.out (HS3.out.cell (v:=.string (txB (d::r4))) 0 0 rfl rfl) (HS3.out.cell (v:=.bool false) 0 1 rfl rfl) (d) rfl).mono ?_;rintro e w' ⟨rfl,rfl⟩);go_ret;rw[hb.out];exact HSf.out
  rw[if_neg c40] at hrd;rw[hrd];have n3:((c:Int)=40)=False:=by simp;omega
  have HSf:=qh (RRd.nil (r:=c::r1) (b:=b) r1 hle1 ht1 (HS1.out.set 0 rfl 1 (.bool true)));have Hhrd:=qh hrd;clear hrd
  go_enter Tryz.func115, Tryz.ntmps115
  go_wp2_with (first
   | (go_at_call 70;refine(Zay (c::r1) false b _ ht.out (HS.out.cell (v:=.string (txB (c::r1))) 0 0 rfl rfl) (HS.out.cell (v:=.bool false) 0 1 rfl rfl) (c) rfl).mono ?_;rintro e w' ⟨rfl,rfl⟩)
   | (go_at_call 110;refine(Zbf _ _ _ _ _ hin.out).mono ?_;rintro e w' ⟨rfl,rfl⟩))
  go_ret;exact HSf.out
theorem Zme (n:Nat) (hA:ZpK n):ZpI (n+1):=by
 intro r b w0 w X hn hl ht hS;have hrd:rdP jI (n+1) 5 r=Zg0 (rdP jI n 6 r):=rfl;rw[hrd];have hm:=Zc4 jI n 6 r;obtain⟨x,hx⟩:=eJ (rdP jI n 6 r);have hA1:=hA r b w0 w X (by unfold fuP at hn ⊢;omega) hl ht hS;rw[hx] at hA1 hm ⊢;obtain⟨es,q,fl⟩:=x;obtain⟨m1,m2,m3⟩:=hm;simp only at m1 m2 m3;have HA1:=qh hA1;have HS:=qh hS;replace hrd:=qh hrd;have Hhx:=qh hx;clear hx;clear hA1 hS
 go_enter Tryz.func71, Tryz.ntmps71
 go_wp2_with (go_at_call 115;refine(HA1.out).mono ?_;rintro e w2 ⟨a3,c3,r3,rfl,hr3,hl3,ht3,hS3⟩);have HS3:=qh hS3;have Hht:=qh ht3;clear hS3;cases fl with
 | true =>
  clear hr3 ht3;go_wp2
  go_loopw [3] (fun v wr=>∃ (a:Option Addr) (c:Nat),v = .slice a es.length c∧St w0 wr [Ent.box b #[.string (txB r3),.bool true] 54,X,Ent.row 62 2 (.slice a es.length c) es.length (es.flatMap Zaa)]) (fun _ _=>0)
  case atStart=>exact⟨a3,c3,rfl,HS3.out⟩
  case round =>obtain⟨a,c,rfl,hS⟩:=hrel;have HS4:=qh hS;clear hS;go_wp2_with (go_at_call 70;refine(Zay r3 true b _ Hht.out (HS4.out.cell (v:=.string (txB r3)) 0 0 rfl rfl) (HS4.out.cell (v:=.bool true) 0 1 rfl rfl) (0) rfl).mono ?_;rintro e w' ⟨rfl,rfl⟩);go_ret;exact⟨a,c,r3,rfl,(fun h=>by cases h),hl3,Hht.out,HS4.out⟩
 | false =>
  obtain rfl:=hr3 rfl;obtain⟨m4,m5⟩:=m3 rfl;obtain⟨y,hy⟩:=eJ (Za6 es r3);have hsx:Zg0 (es,r3,false)=(y.1,y.2,false):=by rw[← hy];rfl
  rw[hsx];have hyl:=ZeJ r3 es;have hyr:=Zf0 r3 es;rw[hy] at hyl hyr;have Hhsx:=qh hsx;clear hsx;clear hr3 ht3;go_wp2
  go_loopw [3] (fun v wr=>∃ (a:Option Addr) (c:Nat) (e4:List (Int × Int)) (r4:List Nat),v = .slice a e4.length c∧Za6 e4 r4=y∧e4.length+r4.length=es.length+r3.length∧r4.length≤r3.length∧isT r4∧St w0 wr [Ent.box b #[.string (txB r4),.bool false] 54,X,Ent.row 62 2 (.slice a e4.length c) e4.length (e4.flatMap Zaa)]) (fun v _=>es.length+r3.length-(match v with | .slice _ m _=>m|_=>0))
  case atStart=>exact⟨a3,c3,es,r3,rfl,hy,rfl,Nat.le_refl _,Hht.out,HS3.out⟩
  case round =>
   obtain⟨a,c,e4,r4,rfl,hst,hsum,hle4,ht4,hS⟩:=hrel;have HS4:=qh hS;have k1:=hS.cell (v:=.bool false) 0 1 rfl rfl;clear hS;cases r4 with
   | nil =>have hst2:y=(e4,[]):=hst.symm;subst hst2;have Hht:=qh ht4;have Hhst:=qh hst;clear hst;go_wp2_with (go_at_call 70;refine(Zay [] false b _ Hht.out (HS4.out.cell (v:=.string (txB [])) 0 0 rfl rfl) (HS4.out.cell (v:=.bool false) 0 1 rfl rfl) (0) rfl).mono ?_;rintro e w' ⟨rfl,rfl⟩);go_ret;rw[Hhsx.out];exact⟨a,c,[],rfl,fun _=>rfl,Nat.zero_le _,ht4,HS4.out⟩
   | cons d r5 =>
    obtain⟨ht5,hd⟩:=Zck ht4;have Hht:=qh ht4;by_cases hd42:d=42
    ·subst hd42;have f0:=HS4.out.fr 0 0 rfl;have k0:=HS4.out.cell (v:=.string (txB (42::r5))) 0 0 rfl rfl;have hcut:=ZdM 42 r5;have HS5:=qh (show St w0 _ [Ent.box b #[.string (txB r5),.bool false] 54,X,Ent.row 62 2 (.slice a e4.length c) e4.length (e4.flatMap Zaa)] from HS4.out.set 0 rfl 0 (.string (txB r5)));have hst2:Za6 (e4++[(8,0)]) r5=y:=hst;have hlen:(e4++[(8,0)]).length=e4.length+1:=by simp
     obtain⟨e5,he5⟩:=eJ (e4++[(8,0)]);rw[he5] at hst2 hlen;replace he5:=qh he5;have Hhlen:=qh hlen;clear hlen;have hsum2:e4.length+1+r5.length=es.length+r3.length:=by simp at hsum;omega
     have hle5:r5.length≤r3.length:=by simp at hle4;omega
     have hlen4:e4.length≤10000:=by simp at hsum;omega
     clear hsum hle4 hst;have Hhst2:=qh hst2;clear hst2;have Hhsum2:=qh hsum2;clear hsum2
     go_wp2_with (first
      | (go_at_call 70;refine(Zay (42::r5) false b _ Hht.out (HS4.out.cell (v:=.string (txB (42::r5))) 0 0 rfl rfl) (HS4.out.cell (v:=.bool false) 0 1 rfl rfl) (42) rfl).mono ?_;rintro e w' ⟨rfl,rfl⟩)
      | (go_at_call 72;have hS6:St w0 _ [Ent.box b #[.string (txB r5),.bool false] 54,X,Ent.row 62 2 (.slice a e4.length c) e4.length (e4.flatMap Zaa),Ent.box wr.heap.size #[.slice a e4.length c] 28]:=HS5.out.alloc wr.heap.size (by simp) #[.slice a e4.length c] 28;have HS6:=qh hS6;have hq1:=(hS6.boxlt 3 rfl).2;have hq2:=hS6.cell (v:=.slice a e4.length c) 3 0 rfl rfl;have hq3:=Zad (hS6.row 2 rfl);clear hS6;have hop:=Zh4 8 e4 (.slice a e4.length c) wr.heap.size 1 _ hlen4 hq1 hq2 hq3;rw[he5.out] at hop;refine hop.mono ?_;clear hq1 hq2 hq3 hop;rintro e w5 ⟨a6,c6,rfl,hS6⟩;have HS7:=qh ((HS6.out.cat hS6).pick [0,1,4] (by decide));clear hS6))
     go_roundw
     case rel=>exact⟨a6,c6,e5,r5,rfl,Hhst2.out,by rw[Hhlen.out];exact Hhsum2.out,hle5,ht5,HS7.out⟩
     case measure =>have:=Hhlen.out;have:=Hhsum2.out;simp;omega
    have hst2:y=(e4,d::r5):=by rw[← hst];exact if_neg hd42
    subst hst2;have n4:((d:Int)=42)=False:=by simp;omega
    have Hhst:=qh hst;clear hst;go_wp2_with (go_at_call 70;refine(Zay (d::r5) false b _ Hht.out (HS4.out.cell (v:=.string (txB (d::r5))) 0 0 rfl rfl) (HS4.out.cell (v:=.bool false) 0 1 rfl rfl) (d) rfl).mono ?_;rintro e w' ⟨rfl,rfl⟩);go_ret;rw[Hhsx.out];exact⟨a,c,d::r5,rfl,fun _=>rfl,by omega,ht4,HS4.out⟩
theorem Zj0 (n:Nat) (hL:ZhK n) (hSt:ZpI n) (r:List Nat) (b:Nat) (w0 w:World) (X:Ent) (hn:fuP 4 r≤n+1) (hl:r.length≤120) (ht:isT r) (hS:St w0 w [Ent.box b #[.string (txB r),.bool false] 54,X]) :
  Calls Tryz.prog 30 #[.pointer (some ⟨b,0,none⟩),.int .i64 4] w (RRd (rdP jI (n+1) 4 r) r b X w0):=by
 have HS:=qh hS;have Hht:=qh ht
 have hgo:∀ c,ZpS r false=c→c≠33→rdP jI (n+1) 4 r=rdP jI n 5 r→Calls Tryz.prog 30 #[.pointer (some ⟨b,0,none⟩),.int .i64 4] w (RRd (rdP jI (n+1) 4 r) r b X w0):=by
  intro c hc h33 hrd;rw[hrd];have hA1:=hSt r b w0 w X (by unfold fuP at hn ⊢;omega) hl ht hS;obtain⟨x,hx⟩:=eJ (rdP jI n 5 r);rw[hx] at hA1 ⊢;have HA1:=qh hA1;have n4:((c:Int)=33)=False:=by simp;omega
  have Hhrd:=qh hrd;clear hrd;have Hhx:=qh hx;clear hx;replace hc:=qh hc;clear hA1 hS
  go_enter Tryz.func30, Tryz.ntmps30
  go_wp2_with (first
   | (go_at_call 49;refine(ZaD 7 _ 4 rfl).mono ?_;rintro e w' ⟨rfl,rfl⟩)
   | (go_at_call 70;refine(Zay r false b _ Hht.out (HS.out.cell (v:=.string (txB r)) 0 0 rfl rfl) (HS.out.cell (v:=.bool false) 0 1 rfl rfl) (c) hc.out).mono ?_;rintro e w' ⟨rfl,rfl⟩)
   | (go_at_call 71;refine(HA1.out).mono ?_;rintro e w2 ⟨a3,c3,r3,rfl,hR⟩))
  go_ret;exact⟨a3,c3,r3,rfl,hR⟩
 cases r with
 | nil=>exact hgo 0 rfl (by omega) rfl
 | cons c r1 =>
  by_cases h33:c=33
  ·subst h33;have hrd:rdP jI (n+1) 4 (33::r1)=((rdP jI n 4 r1).1++[(7,0)],(rdP jI n 4 r1).2):=rfl;rw[hrd];clear hgo;obtain⟨ht1,-⟩:=Zck ht;have hcut:=ZdM 33 r1;have f0:=HS.out.fr 0 0 rfl;have k0:=HS.out.cell (v:=.string (txB (33::r1))) 0 0 rfl rfl;have HS1:=qh (show St w0 _ [Ent.box b #[.string (txB r1),.bool false] 54,X] from HS.out.set 0 rfl 0 (.string (txB r1)));have hl1:r1.length≤119:=by simp at hl;omega
   have hm:=Zc4 jI n 4 r1;have hL1:=hL 4 r1 b w0 _ X (by omega) (by omega) (by unfold fuP at hn ⊢;simp at hn;omega) (by omega) ht1 HS1.out;obtain⟨x,hx⟩:=eJ (rdP jI n 4 r1);rw[hx] at hL1 hm ⊢;obtain⟨es,q,fl⟩:=x;have hel:es.length≤1000:=by have:=hm.2.1;simp only at this;omega
   have HL1:=qh hL1;obtain⟨e5,he5⟩:=eJ (es++[(7,0)]);have he6:(es,q,fl).1++[(7,0)]=e5:=he5;rw[he6];have Hhrd:=qh hrd;clear hrd;have Hhx:=qh hx;clear hx;have Hhe5:=qh he5;clear he5;have Hhe6:=qh he6;clear he6;clear hL1 hm hS
   go_enter Tryz.func30, Tryz.ntmps30
   go_wp2_with (first
    | (go_at_call 49;refine(ZaD 7 _ 4 rfl).mono ?_;rintro e w' ⟨rfl,rfl⟩)
    | (go_at_call 70;refine(Zay (33::r1) false b _ Hht.out (HS.out.cell (v:=.string (txB (33::r1))) 0 0 rfl rfl) (HS.out.cell (v:=.bool false) 0 1 rfl rfl) (33) rfl).mono ?_;rintro e w' ⟨rfl,rfl⟩)
    | (go_at_call 30;refine(HL1.out).mono ?_;rintro e w2 ⟨a3,c3,r3,rfl,hr3,hl3,ht3,hS3⟩;replace hS3:=qh hS3)
    | (go_at_call 72;have hS6:St w0 _ [Ent.box b #[.string (txB r3),.bool fl] 54,X,Ent.row 62 2 (.slice a3 es.length c3) es.length (es.flatMap Zaa),Ent.box w2.heap.size #[.slice a3 es.length c3] 28]:=hS3.out.alloc w2.heap.size rfl #[.slice a3 es.length c3] 28;have HS6:=qh hS6;have hq1:=(hS6.boxlt 3 rfl).2;have hq2:=hS6.cell (v:=.slice a3 es.length c3) 3 0 rfl rfl;have hq3:=Zad (hS6.row 2 rfl);clear hS6;have hop:=Zh4 7 es (.slice a3 es.length c3) w2.heap.size 1 _ (Nat.le_trans hel (by decide)) hq1 hq2 hq3;rw[Hhe5.out] at hop;refine hop.mono ?_;clear hq1 hq2 hq3 hop;rintro e w5 ⟨a6,c6,rfl,hS6⟩;have HS7:=qh ((HS6.out.cat hS6).pick [0,1,4] (by decide));clear hS6))
   go_ret;exact⟨a6,c6,r3,rfl,hr3,by simp;omega,ht3,HS7.out⟩
  exact hgo c rfl h33 (if_neg h33)
theorem Zik (w:World):(Instr.index 96 (.agg #[.int .i64 0,.int .i64 5,.int .i64 6,.int .i64 4]) (.int .i64 1)).run Tryz.prog w = .ok (.int .i64 5) w∧(Instr.index 96 (.agg #[.int .i64 0,.int .i64 5,.int .i64 6,.int .i64 4]) (.int .i64 2)).run Tryz.prog w = .ok (.int .i64 6) w∧(Instr.index 96 (.agg #[.int .i64 0,.int .i64 5,.int .i64 6,.int .i64 4]) (.int .i64 3)).run Tryz.prog w = .ok (.int .i64 4) w:=by
 have h1:(sizeOf 3).run Tryz.prog w = .ok 1 w:=by obtain⟨i0,hi,-,hz1,-⟩:=info_parts Tryz.infoInt;simp[sizeOf,typeInfo,hi,hz1]
 refine⟨?_,?_,?_⟩<;>simp[Instr.index,run_underlying Tryz.underlying96,asIntOf,Sem.run_bind,Sem.run_pure,Result.andThen,part,isAgg,run_underlying Tryz.underlying3,h1]
def stFl (w:World) (b:Nat):Nat:=match w.cell? ⟨b,1,none⟩,w.cell? ⟨b,0,none⟩ with
 | some (.bool false),some (.string s)=>s.size+1
 | _,_=>0
theorem Zj3 (n:Nat) (hL:ZhK n) (r:List Nat) (b:Nat) (w0 w:World) (X:Ent) (hn:fuP 1 r≤n+1) (hl:r.length≤120) (ht:isT r) (hS:St w0 w [Ent.box b #[.string (txB r),.bool false] 54,X]) :
  Calls Tryz.prog 30 #[.pointer (some ⟨b,0,none⟩),.int .i64 1] w (RRd (rdP jI (n+1) 1 r) r b X w0):=by
 have hrd:rdP jI (n+1) 1 r=ZaO (rdP jI n 2) jI 1 n (rdP jI n 2 r).1 (rdP jI n 2 r).2.1 (rdP jI n 2 r).2.2:=rfl;rw[hrd];have hm:=Zc4 jI n 2 r;have hL1:=hL 2 r b w0 w X (by omega) (by omega) (by unfold fuP at hn ⊢;omega) hl ht hS;obtain⟨x,hx⟩:=eJ (rdP jI n 2 r);rw[hx] at hL1 hm ⊢;obtain⟨es0,q0,fl0⟩:=x;obtain⟨y,hy⟩:=eJ (ZaO (rdP jI n 2) jI 1 n es0 q0 fl0);have hyy0:ZaO (rdP jI n 2) jI 1 n (es0,q0,fl0).1 (es0,q0,fl0).2.1 (es0,q0,fl0).2.2=y:=hy;rw[hyy0];have HL1:=qh hL1;have Hhm:=qh hm;replace hrd:=qh hrd;have Hhx:=qh hx;clear hx;have Hhyy0:=qh hyy0;clear hyy0;have Hhy:=qh hy;clear hy;clear hL1 hS hm
 go_enter Tryz.func30, Tryz.ntmps30
 go_wp2_with (first
  | (go_at_call 49;refine(ZaD 7 _ 4 rfl).mono ?_;rintro e w' ⟨rfl,rfl⟩)
  | (go_at_call 30;refine(HL1.out).mono ?_;rintro e w2 ⟨a3,c3,r3,rfl,hr3,hl3,ht3,hS3⟩;replace hS3:=qh hS3))
 go_loopw [5] (fun v wr=>(∃ (a:Option Addr) (c:Nat) (es:List (Int × Int)) (r':List Nat),v = .slice a es.length c∧y.1=es∧y.2.2=true∧isT r'∧r'.length≤r.length∧St w0 wr [Ent.box b #[.string (txB r'),.bool true] 54,X,Ent.row 62 2 (.slice a es.length c) es.length (es.flatMap Zaa)]) ∨
   (∃ (a:Option Addr) (c:Nat) (es:List (Int × Int)) (r':List Nat) (kk:Nat),v = .slice a es.length c∧ZaO (rdP jI n 2) jI 1 kk es r' false=y∧r'.length<kk∧meas r.length (es,r',false)∧isT r'∧St w0 wr [Ent.box b #[.string (txB r'),.bool false] 54,X,Ent.row 62 2 (.slice a es.length c) es.length (es.flatMap Zaa)])) (fun _ wr=>stFl wr b)
 case atStart =>
  cases fl0 with
  | true =>
   have hy2:y=(es0,q0,true):=by rw[← Hhy.out];cases n<;>rfl
   exact .inl ⟨a3,c3,es0,r3,rfl,by rw[hy2],by rw[hy2],ht3,hl3,hS3.out⟩
  | false =>obtain rfl:=hr3 rfl;obtain⟨m1,m2,m3⟩:=Hhm.out;obtain⟨m4,m5⟩:=m3 rfl;simp only at m1 m2 m4 m5;exact .inr ⟨a3,c3,es0,r3,n,rfl,Hhy.out,by unfold fuP at hn;omega,⟨m1,m2,fun _=>⟨m4,m5⟩⟩,ht3,hS3.out⟩
 case round =>
  rcases hrel with⟨a,c,es,r',rfl,hy1,hy2,ht4,hle4,hS⟩|⟨a,c,es,r',k1,rfl,hyy,hkk,hme,ht4,hS⟩
  ·have HS4:=qh hS;have k1:=hS.cell (v:=.bool true) 0 1 rfl rfl;clear hS;go_wp2;go_ret;subst hy1;exact⟨a,c,r',rfl,(fun h=>by rw[hy2] at h;cases h),hle4,ht4,by rw[hy2];exact HS4.out⟩
  have HS4:=qh hS;have k1b:=hS.cell (v:=.bool false) 0 1 rfl rfl;obtain⟨kk,rfl⟩:∃ kk,k1=kk+1:=⟨k1-1,by omega⟩;have hle4:r'.length≤r.length:=hme.1;have hel:es.length≤1000:=by have:=hme.2.1;simp only at this;omega
  have Hht:=qh ht4;clear hS;cases r' with
  | nil =>have hyy2:y=(es,[],false):=hyy.symm;have Hhyy:=qh hyy2;clear hyy hyy2 hme;go_wp2_with (go_at_call 70;refine(Zay [] false b _ Hht.out (HS4.out.cell (v:=.string (txB [])) 0 0 rfl rfl) (HS4.out.cell (v:=.bool false) 0 1 rfl rfl) (0) rfl).mono ?_;rintro e w' ⟨rfl,rfl⟩);go_ret;rw[Hhyy.out];exact⟨a,c,[],rfl,fun _=>rfl,by omega,ht4,HS4.out⟩
  | cons d r5 =>
   obtain⟨ht5,hd⟩:=Zck ht4;by_cases hds:d=124
   ·subst hds;have hyy:ZaO (rdP jI n 2) jI 1 kk (es++(rdP jI n 2 r5).1++[(opK 1,0)]) (rdP jI n 2 r5).2.1 (rdP jI n 2 r5).2.2=y:=hyy;have hcut:=ZdM 124 r5;have f0:=HS4.out.fr 0 0 rfl;have k0:=HS4.out.cell (v:=.string (txB (124::r5))) 0 0 rfl rfl;have HSn:=qh (show St w0 _ [Ent.box b #[.string (txB r5),.bool false] 54,X,Ent.row 62 2 (.slice a es.length c) es.length (es.flatMap Zaa)] from HS4.out.set 0 rfl 0 (.string (txB r5)));have hki:=fun u=>(Zik u).1
    have hm9:=Zc4 jI n 2 r5;obtain⟨x9,hx9⟩:=eJ (rdP jI n 2 r5);have hlr:(r5).length≤r.length:=by simp at hle4;omega
    have htr:isT (r5):=ht5;have hL9:=fun u (hu:St w0 u [Ent.box b #[.string (txB r5),.bool false] 54,Ent.all [X,Ent.row 62 2 (.slice a es.length c) es.length (es.flatMap Zaa)]])=>hL 2 (r5) b w0 u _ (by omega) (by omega) (by unfold fuP at hn ⊢;omega) (by omega) htr hu
    rw[hx9] at hL9 hm9 hyy;obtain⟨e9,q9,fl9⟩:=x9;have hel9:e9.length≤1000:=by have:=hm9.2.1;simp only at this;omega
    have HL9:=qh hL9;obtain⟨e5,he5⟩:=eJ (es++e9++[(5,0)]);simp only at hyy;rw[show opK 1=5 from rfl,he5] at hyy;have hlen5:e5.length=es.length+e9.length+1:=by rw[← he5];simp;omega
    have Hhm9:=qh hm9;have Hhme:=qh hme;have Hhlen5:=qh hlen5;clear hlen5;have Hhx9:=qh hx9;clear hx9;have Hhe5:=qh he5;clear he5;have Hhyy:=qh hyy;clear hyy;clear hL9 hm9 hme ht4
    go_wp2_with (first
     | (go_at_call 70;refine(Zay (124::r5) false b _ Hht.out (HS4.out.cell (v:=.string (txB (124::r5))) 0 0 rfl rfl) (HS4.out.cell (v:=.bool false) 0 1 rfl rfl) (124) rfl).mono ?_;rintro e w' ⟨rfl,rfl⟩)
     | (go_at_call 30;have hSp:=St.pack (A:=[Ent.box b #[.string (txB r5),.bool false] 54]) (R:=[X,Ent.row 62 2 (.slice a es.length c) es.length (es.flatMap Zaa)]) HSn.out;refine(HL9.out _ hSp).mono ?_;clear hSp;rintro e w2 ⟨a9,c9,r9,rfl,hr9,hl9,ht9,hS9⟩;have HS9:=qh (show St w0 w2 [Ent.box b #[.string (txB r9),.bool fl9] 54,Ent.row 62 2 (.slice a9 e9.length c9) e9.length (e9.flatMap Zaa),X,Ent.row 62 2 (.slice a es.length c) es.length (es.flatMap Zaa)] from St.unpack (A:=[Ent.box b #[.string (txB r5),.bool false] 54]) (A':=[Ent.box b #[.string (txB r9),.bool fl9] 54,Ent.row 62 2 (.slice a9 e9.length c9) e9.length (e9.flatMap Zaa)]) (R:=[X,Ent.row 62 2 (.slice a es.length c) es.length (es.flatMap Zaa)]) HSn.out (hS9.pick [0,2,1] (by decide)));clear hS9)
     | (go_at_call 72;have hS6:St w0 _ [Ent.box b #[.string (txB r9),.bool fl9] 54,Ent.row 62 2 (.slice a9 e9.length c9) e9.length (e9.flatMap Zaa),X,Ent.row 62 2 (.slice a es.length c) es.length (es.flatMap Zaa),Ent.box w2.heap.size #[.slice a es.length c,.slice a9 e9.length c9] 28]:=HS9.out.alloc w2.heap.size rfl #[.slice a es.length c,.slice a9 e9.length c9] 28;have HS6:=qh hS6;have hq1:=(hS6.boxlt 4 rfl).2;have hq2:=hS6.cell (v:=.slice a es.length c) 4 0 rfl rfl;have hq4:=hS6.cell (v:=.slice a9 e9.length c9) 4 1 rfl rfl;have hq3:=Zad (hS6.row 3 rfl);have hq5:=Zad (hS6.row 1 rfl);clear hS6;have hop:=ZeP 5 es e9 (.slice a es.length c) (.slice a9 e9.length c9) w2.heap.size 2 _ (Nat.le_trans hel (by decide)) (Nat.le_trans hel9 (by decide)) hq1 hq2 hq4 hq3 hq5;rw[Hhe5.out] at hop;refine hop.mono ?_;clear hq1 hq2 hq3 hq4 hq5 hop;rintro e w5 ⟨a6,c6,rfl,hS6⟩;have HS7:=qh ((HS6.out.cat hS6).pick [0,2,5] (by decide));clear hS6))
    have hm9:=Hhm9.out;have hme:=Hhme.out;have hlen5:=Hhlen5.out;have hyy:=Hhyy.out;have hlr9:r9.length≤r.length:=by omega
    have hlc:((124::r5)).length=r5.length+1:=rfl;have z1:=HS4.out.cell (v:=.bool false) 0 1 rfl rfl;have z2:=HS4.out.cell (v:=.string (txB (124::r5))) 0 0 rfl rfl;have z3:=HS7.out.cell (v:=.string (txB r9)) 0 0 rfl rfl;cases fl9 with
    | true =>
     have hy2:y=(e5,q9,true):=by rw[← hyy];cases kk<;>rfl
     go_roundw
     case rel=>exact .inl ⟨a6,c6,e5,r9,rfl,by rw[hy2],by rw[hy2],ht9,hlr9,HS7.out⟩
     case measure=>simp[stFl,HS7.out.cell (v:=.bool true) 0 1 rfl rfl,z1,z2]
    | false =>
     obtain rfl:=hr9 rfl;obtain⟨-,-,b3⟩:=hm9;obtain⟨b4,b5⟩:=b3 rfl;obtain⟨a1,a2,a3⟩:=hme;obtain⟨a4,a5⟩:=a3 rfl;simp only at b4 b5 a1 a2 a4 a5;have hmeas:meas r.length (e5,r9,false):=⟨by simp only;omega,by simp only;omega,fun _=>by simp only;omega⟩;go_roundw
     case rel=>exact .inr ⟨a6,c6,e5,r9,kk,rfl,hyy,by omega,hmeas,ht9,HS7.out⟩
     case measure =>simp only[stFl,HS7.out.cell (v:=.bool false) 0 1 rfl rfl,z1,z2,z3,ZaG];omega
   have hyy2:y=(es,d::r5,false):=by
    rw[← hyy];unfold ZaO;rw[if_neg (by simp)];have hc:ZeB jI 1 (d::r5)=none:=by show(if 1=1∧d=124∨1=2∧d=38 then some r5 else if 1=3∧jI d=true then some (d::r5) else none)=none;rw[if_neg (by omega),if_neg (by omega)]
    rw[hc]
   have n4:((d:Int)=124)=False:=by simp;omega
   have Hhyy:=qh hyy2;clear hyy hyy2 hme;go_wp2_with (go_at_call 70;refine(Zay (d::r5) false b _ Hht.out (HS4.out.cell (v:=.string (txB (d::r5))) 0 0 rfl rfl) (HS4.out.cell (v:=.bool false) 0 1 rfl rfl) (d) rfl).mono ?_;rintro e w' ⟨rfl,rfl⟩);go_ret;rw[Hhyy.out];exact⟨a,c,(d::r5),rfl,fun _=>rfl,by omega,ht4,HS4.out⟩
theorem Zj2 (n:Nat) (hL:ZhK n) (r:List Nat) (b:Nat) (w0 w:World) (X:Ent) (hn:fuP 2 r≤n+1) (hl:r.length≤120) (ht:isT r) (hS:St w0 w [Ent.box b #[.string (txB r),.bool false] 54,X]) :
  Calls Tryz.prog 30 #[.pointer (some ⟨b,0,none⟩),.int .i64 2] w (RRd (rdP jI (n+1) 2 r) r b X w0):=by
 have hrd:rdP jI (n+1) 2 r=ZaO (rdP jI n 3) jI 2 n (rdP jI n 3 r).1 (rdP jI n 3 r).2.1 (rdP jI n 3 r).2.2:=rfl;rw[hrd];have hm:=Zc4 jI n 3 r;have hL1:=hL 3 r b w0 w X (by omega) (by omega) (by unfold fuP at hn ⊢;omega) hl ht hS;obtain⟨x,hx⟩:=eJ (rdP jI n 3 r);rw[hx] at hL1 hm ⊢;obtain⟨es0,q0,fl0⟩:=x;obtain⟨y,hy⟩:=eJ (ZaO (rdP jI n 3) jI 2 n es0 q0 fl0);have hyy0:ZaO (rdP jI n 3) jI 2 n (es0,q0,fl0).1 (es0,q0,fl0).2.1 (es0,q0,fl0).2.2=y:=hy;rw[hyy0];have HL1:=qh hL1;have Hhm:=qh hm;replace hrd:=qh hrd;have Hhx:=qh hx;clear hx;have Hhyy0:=qh hyy0;clear hyy0;have Hhy:=qh hy;clear hy;clear hL1 hS hm
 go_enter Tryz.func30, Tryz.ntmps30
 go_wp2_with (first
  | (go_at_call 49;refine(ZaD 7 _ 4 rfl).mono ?_;rintro e w' ⟨rfl,rfl⟩)
  | (go_at_call 30;refine(HL1.out).mono ?_;rintro e w2 ⟨a3,c3,r3,rfl,hr3,hl3,ht3,hS3⟩;replace hS3:=qh hS3))
 go_loopw [5] (fun v wr=>(∃ (a:Option Addr) (c:Nat) (es:List (Int × Int)) (r':List Nat),v = .slice a es.length c∧y.1=es∧y.2.2=true∧isT r'∧r'.length≤r.length∧St w0 wr [Ent.box b #[.string (txB r'),.bool true] 54,X,Ent.row 62 2 (.slice a es.length c) es.length (es.flatMap Zaa)]) ∨
   (∃ (a:Option Addr) (c:Nat) (es:List (Int × Int)) (r':List Nat) (kk:Nat),v = .slice a es.length c∧ZaO (rdP jI n 3) jI 2 kk es r' false=y∧r'.length<kk∧meas r.length (es,r',false)∧isT r'∧St w0 wr [Ent.box b #[.string (txB r'),.bool false] 54,X,Ent.row 62 2 (.slice a es.length c) es.length (es.flatMap Zaa)])) (fun _ wr=>stFl wr b)
 case atStart =>
  cases fl0 with
  | true =>
   have hy2:y=(es0,q0,true):=by rw[← Hhy.out];cases n<;>rfl
   exact .inl ⟨a3,c3,es0,r3,rfl,by rw[hy2],by rw[hy2],ht3,hl3,hS3.out⟩
  | false =>obtain rfl:=hr3 rfl;obtain⟨m1,m2,m3⟩:=Hhm.out;obtain⟨m4,m5⟩:=m3 rfl;simp only at m1 m2 m4 m5;exact .inr ⟨a3,c3,es0,r3,n,rfl,Hhy.out,by unfold fuP at hn;omega,⟨m1,m2,fun _=>⟨m4,m5⟩⟩,ht3,hS3.out⟩
 case round =>
  rcases hrel with⟨a,c,es,r',rfl,hy1,hy2,ht4,hle4,hS⟩|⟨a,c,es,r',k1,rfl,hyy,hkk,hme,ht4,hS⟩
  ·have HS4:=qh hS;have k1:=hS.cell (v:=.bool true) 0 1 rfl rfl;clear hS;go_wp2;go_ret;subst hy1;exact⟨a,c,r',rfl,(fun h=>by rw[hy2] at h;cases h),hle4,ht4,by rw[hy2];exact HS4.out⟩
  have HS4:=qh hS;have k1b:=hS.cell (v:=.bool false) 0 1 rfl rfl;obtain⟨kk,rfl⟩:∃ kk,k1=kk+1:=⟨k1-1,by omega⟩;have hle4:r'.length≤r.length:=hme.1;have hel:es.length≤1000:=by have:=hme.2.1;simp only at this;omega
  have Hht:=qh ht4;clear hS;cases r' with
  | nil =>have hyy2:y=(es,[],false):=hyy.symm;have Hhyy:=qh hyy2;clear hyy hyy2 hme;go_wp2_with (go_at_call 70;refine(Zay [] false b _ Hht.out (HS4.out.cell (v:=.string (txB [])) 0 0 rfl rfl) (HS4.out.cell (v:=.bool false) 0 1 rfl rfl) (0) rfl).mono ?_;rintro e w' ⟨rfl,rfl⟩);go_ret;rw[Hhyy.out];exact⟨a,c,[],rfl,fun _=>rfl,by omega,ht4,HS4.out⟩
  | cons d r5 =>
   obtain⟨ht5,hd⟩:=Zck ht4;by_cases hds:d=38
   ·subst hds;have hyy:ZaO (rdP jI n 3) jI 2 kk (es++(rdP jI n 3 r5).1++[(opK 2,0)]) (rdP jI n 3 r5).2.1 (rdP jI n 3 r5).2.2=y:=hyy;have hcut:=ZdM 38 r5;have f0:=HS4.out.fr 0 0 rfl;have k0:=HS4.out.cell (v:=.string (txB (38::r5))) 0 0 rfl rfl;have HSn:=qh (show St w0 _ [Ent.box b #[.string (txB r5),.bool false] 54,X,Ent.row 62 2 (.slice a es.length c) es.length (es.flatMap Zaa)] from HS4.out.set 0 rfl 0 (.string (txB r5)));have hki:=fun u=>(Zik u).2.1
    have hm9:=Zc4 jI n 3 r5;obtain⟨x9,hx9⟩:=eJ (rdP jI n 3 r5);have hlr:(r5).length≤r.length:=by simp at hle4;omega
    have htr:isT (r5):=ht5;have hL9:=fun u (hu:St w0 u [Ent.box b #[.string (txB r5),.bool false] 54,Ent.all [X,Ent.row 62 2 (.slice a es.length c) es.length (es.flatMap Zaa)]])=>hL 3 (r5) b w0 u _ (by omega) (by omega) (by unfold fuP at hn ⊢;omega) (by omega) htr hu
    rw[hx9] at hL9 hm9 hyy;obtain⟨e9,q9,fl9⟩:=x9;have hel9:e9.length≤1000:=by have:=hm9.2.1;simp only at this;omega
    have HL9:=qh hL9;obtain⟨e5,he5⟩:=eJ (es++e9++[(6,0)]);simp only at hyy;rw[show opK 2=6 from rfl,he5] at hyy;have hlen5:e5.length=es.length+e9.length+1:=by rw[← he5];simp;omega
    have Hhm9:=qh hm9;have Hhme:=qh hme;have Hhlen5:=qh hlen5;clear hlen5;have Hhx9:=qh hx9;clear hx9;have Hhe5:=qh he5;clear he5;have Hhyy:=qh hyy;clear hyy;clear hL9 hm9 hme ht4
    go_wp2_with (first
     | (go_at_call 70;refine(Zay (38::r5) false b _ Hht.out (HS4.out.cell (v:=.string (txB (38::r5))) 0 0 rfl rfl) (HS4.out.cell (v:=.bool false) 0 1 rfl rfl) (38) rfl).mono ?_;rintro e w' ⟨rfl,rfl⟩)
     | (go_at_call 30;have hSp:=St.pack (A:=[Ent.box b #[.string (txB r5),.bool false] 54]) (R:=[X,Ent.row 62 2 (.slice a es.length c) es.length (es.flatMap Zaa)]) HSn.out;refine(HL9.out _ hSp).mono ?_;clear hSp;rintro e w2 ⟨a9,c9,r9,rfl,hr9,hl9,ht9,hS9⟩;have HS9:=qh (show St w0 w2 [Ent.box b #[.string (txB r9),.bool fl9] 54,Ent.row 62 2 (.slice a9 e9.length c9) e9.length (e9.flatMap Zaa),X,Ent.row 62 2 (.slice a es.length c) es.length (es.flatMap Zaa)] from St.unpack (A:=[Ent.box b #[.string (txB r5),.bool false] 54]) (A':=[Ent.box b #[.string (txB r9),.bool fl9] 54,Ent.row 62 2 (.slice a9 e9.length c9) e9.length (e9.flatMap Zaa)]) (R:=[X,Ent.row 62 2 (.slice a es.length c) es.length (es.flatMap Zaa)]) HSn.out (hS9.pick [0,2,1] (by decide)));clear hS9)
     | (go_at_call 72;have hS6:St w0 _ [Ent.box b #[.string (txB r9),.bool fl9] 54,Ent.row 62 2 (.slice a9 e9.length c9) e9.length (e9.flatMap Zaa),X,Ent.row 62 2 (.slice a es.length c) es.length (es.flatMap Zaa),Ent.box w2.heap.size #[.slice a es.length c,.slice a9 e9.length c9] 28]:=HS9.out.alloc w2.heap.size rfl #[.slice a es.length c,.slice a9 e9.length c9] 28;have HS6:=qh hS6;have hq1:=(hS6.boxlt 4 rfl).2;have hq2:=hS6.cell (v:=.slice a es.length c) 4 0 rfl rfl;have hq4:=hS6.cell (v:=.slice a9 e9.length c9) 4 1 rfl rfl;have hq3:=Zad (hS6.row 3 rfl);have hq5:=Zad (hS6.row 1 rfl);clear hS6;have hop:=ZeP 6 es e9 (.slice a es.length c) (.slice a9 e9.length c9) w2.heap.size 2 _ (Nat.le_trans hel (by decide)) (Nat.le_trans hel9 (by decide)) hq1 hq2 hq4 hq3 hq5;rw[Hhe5.out] at hop;refine hop.mono ?_;clear hq1 hq2 hq3 hq4 hq5 hop;rintro e w5 ⟨a6,c6,rfl,hS6⟩;have HS7:=qh ((HS6.out.cat hS6).pick [0,2,5] (by decide));clear hS6))
    have hm9:=Hhm9.out;have hme:=Hhme.out;have hlen5:=Hhlen5.out;have hyy:=Hhyy.out;have hlr9:r9.length≤r.length:=by omega
    have hlc:((38::r5)).length=r5.length+1:=rfl;have z1:=HS4.out.cell (v:=.bool false) 0 1 rfl rfl;have z2:=HS4.out.cell (v:=.string (txB (38::r5))) 0 0 rfl rfl;have z3:=HS7.out.cell (v:=.string (txB r9)) 0 0 rfl rfl;cases fl9 with
    | true =>
     have hy2:y=(e5,q9,true):=by rw[← hyy];cases kk<;>rfl
     go_roundw
     case rel=>exact .inl ⟨a6,c6,e5,r9,rfl,by rw[hy2],by rw[hy2],ht9,hlr9,HS7.out⟩
     case measure=>simp[stFl,HS7.out.cell (v:=.bool true) 0 1 rfl rfl,z1,z2]
    | false =>
     obtain rfl:=hr9 rfl;obtain⟨-,-,b3⟩:=hm9;obtain⟨b4,b5⟩:=b3 rfl;obtain⟨a1,a2,a3⟩:=hme;obtain⟨a4,a5⟩:=a3 rfl;simp only at b4 b5 a1 a2 a4 a5;have hmeas:meas r.length (e5,r9,false):=⟨by simp only;omega,by simp only;omega,fun _=>by simp only;omega⟩;go_roundw
     case rel=>exact .inr ⟨a6,c6,e5,r9,kk,rfl,hyy,by omega,hmeas,ht9,HS7.out⟩
     case measure =>simp only[stFl,HS7.out.cell (v:=.bool false) 0 1 rfl rfl,z1,z2,z3,ZaG];omega
   have hyy2:y=(es,d::r5,false):=by
    rw[← hyy];unfold ZaO;rw[if_neg (by simp)];have hc:ZeB jI 2 (d::r5)=none:=by show(if 2=1∧d=124∨2=2∧d=38 then some r5 else if 2=3∧jI d=true then some (d::r5) else none)=none;rw[if_neg (by omega),if_neg (by omega)]
    rw[hc]
   have n4:((d:Int)=38)=False:=by simp;omega
   have Hhyy:=qh hyy2;clear hyy hyy2 hme;go_wp2_with (go_at_call 70;refine(Zay (d::r5) false b _ Hht.out (HS4.out.cell (v:=.string (txB (d::r5))) 0 0 rfl rfl) (HS4.out.cell (v:=.bool false) 0 1 rfl rfl) (d) rfl).mono ?_;rintro e w' ⟨rfl,rfl⟩);go_ret;rw[Hhyy.out];exact⟨a,c,(d::r5),rfl,fun _=>rfl,by omega,ht4,HS4.out⟩
theorem Zj1 (n:Nat) (hL:ZhK n) (r:List Nat) (b:Nat) (w0 w:World) (X:Ent) (hn:fuP 3 r≤n+1) (hl:r.length≤120) (ht:isT r) (hS:St w0 w [Ent.box b #[.string (txB r),.bool false] 54,X]) :
  Calls Tryz.prog 30 #[.pointer (some ⟨b,0,none⟩),.int .i64 3] w (RRd (rdP jI (n+1) 3 r) r b X w0):=by
 have hrd:rdP jI (n+1) 3 r=ZaO (rdP jI n 4) jI 3 n (rdP jI n 4 r).1 (rdP jI n 4 r).2.1 (rdP jI n 4 r).2.2:=rfl;rw[hrd];have hm:=Zc4 jI n 4 r;have hL1:=hL 4 r b w0 w X (by omega) (by omega) (by unfold fuP at hn ⊢;omega) hl ht hS;obtain⟨x,hx⟩:=eJ (rdP jI n 4 r);rw[hx] at hL1 hm ⊢;obtain⟨es0,q0,fl0⟩:=x;obtain⟨y,hy⟩:=eJ (ZaO (rdP jI n 4) jI 3 n es0 q0 fl0);have hyy0:ZaO (rdP jI n 4) jI 3 n (es0,q0,fl0).1 (es0,q0,fl0).2.1 (es0,q0,fl0).2.2=y:=hy;rw[hyy0];have HL1:=qh hL1;have Hhm:=qh hm;replace hrd:=qh hrd;have Hhx:=qh hx;clear hx;have Hhyy0:=qh hyy0;clear hyy0;have Hhy:=qh hy;clear hy;clear hL1 hS hm
 go_enter Tryz.func30, Tryz.ntmps30
 go_wp2_with (first
  | (go_at_call 49;refine(ZaD 7 _ 4 rfl).mono ?_;rintro e w' ⟨rfl,rfl⟩)
  | (go_at_call 30;refine(HL1.out).mono ?_;rintro e w2 ⟨a3,c3,r3,rfl,hr3,hl3,ht3,hS3⟩;replace hS3:=qh hS3))
 go_loopw [5] (fun v wr=>(∃ (a:Option Addr) (c:Nat) (es:List (Int × Int)) (r':List Nat),v = .slice a es.length c∧y.1=es∧y.2.2=true∧isT r'∧r'.length≤r.length∧St w0 wr [Ent.box b #[.string (txB r'),.bool true] 54,X,Ent.row 62 2 (.slice a es.length c) es.length (es.flatMap Zaa)]) ∨
   (∃ (a:Option Addr) (c:Nat) (es:List (Int × Int)) (r':List Nat) (kk:Nat),v = .slice a es.length c∧ZaO (rdP jI n 4) jI 3 kk es r' false=y∧r'.length<kk∧meas r.length (es,r',false)∧isT r'∧St w0 wr [Ent.box b #[.string (txB r'),.bool false] 54,X,Ent.row 62 2 (.slice a es.length c) es.length (es.flatMap Zaa)])) (fun _ wr=>stFl wr b)
 case atStart =>
  cases fl0 with
  | true =>
   have hy2:y=(es0,q0,true):=by rw[← Hhy.out];cases n<;>rfl
   exact .inl ⟨a3,c3,es0,r3,rfl,by rw[hy2],by rw[hy2],ht3,hl3,hS3.out⟩
  | false =>obtain rfl:=hr3 rfl;obtain⟨m1,m2,m3⟩:=Hhm.out;obtain⟨m4,m5⟩:=m3 rfl;simp only at m1 m2 m4 m5;exact .inr ⟨a3,c3,es0,r3,n,rfl,Hhy.out,by unfold fuP at hn;omega,⟨m1,m2,fun _=>⟨m4,m5⟩⟩,ht3,hS3.out⟩
 case round =>
  rcases hrel with⟨a,c,es,r',rfl,hy1,hy2,ht4,hle4,hS⟩|⟨a,c,es,r',k1,rfl,hyy,hkk,hme,ht4,hS⟩
  ·have HS4:=qh hS;have k1:=hS.cell (v:=.bool true) 0 1 rfl rfl;clear hS;go_wp2;go_ret;subst hy1;exact⟨a,c,r',rfl,(fun h=>by rw[hy2] at h;cases h),hle4,ht4,by rw[hy2];exact HS4.out⟩
  have HS4:=qh hS;have k1b:=hS.cell (v:=.bool false) 0 1 rfl rfl;obtain⟨kk,rfl⟩:∃ kk,k1=kk+1:=⟨k1-1,by omega⟩;have hle4:r'.length≤r.length:=hme.1;have hel:es.length≤1000:=by have:=hme.2.1;simp only at this;omega
  have Hht:=qh ht4;clear hS;cases r' with
  | nil =>have hyy2:y=(es,[],false):=hyy.symm;have Hhyy:=qh hyy2;clear hyy hyy2 hme;go_wp2_with (go_at_call 70;refine(Zay [] false b _ Hht.out (HS4.out.cell (v:=.string (txB [])) 0 0 rfl rfl) (HS4.out.cell (v:=.bool false) 0 1 rfl rfl) (0) rfl).mono ?_;rintro e w' ⟨rfl,rfl⟩);go_ret;rw[Hhyy.out];exact⟨a,c,[],rfl,fun _=>rfl,by omega,ht4,HS4.out⟩
  | cons d r5 =>
   obtain⟨ht5,hd⟩:=Zck ht4;obtain⟨ri,hri⟩:=eJ (Lib.indexByte [48,49,97,98,99,40,33] ((d:Int).toNat.toUInt8));have hix:=Zpu hd;rw[hri] at hix;have Hri:=qh hri;clear hri;cases hj:jI d with
   | true =>
    have hri0:0≤ri:=hix.2 hj;have hri1:(0≤ri)=True:=by simp;omega
    have hri2:(ri<0)=False:=by simp;omega
    have nd0:((d:Int)=0)=False:=by simp;rintro rfl;simp[jI] at hj
    have nd1:(d=0)=False:=by simpa using nd0
    have nd2:((d:Int) != 0)=true:=by simpa using nd0
    have hyy:ZaO (rdP jI n 4) jI 3 kk (es++(rdP jI n 4 (d::r5)).1++[(opK 3,0)]) (rdP jI n 4 (d::r5)).2.1 (rdP jI n 4 (d::r5)).2.2=y:=by
     rw[← hyy];have hc:ZeB jI 3 (d::r5)=some (d::r5):=by show(if 3=1∧d=124∨3=2∧d=38 then some r5 else if 3=3∧jI d=true then some (d::r5) else none)=_;rw[if_neg (by omega),if_pos ⟨rfl,hj⟩]
     conv=>rhs;unfold ZaO
     rw[if_neg (by simp),hc]
    have Hhj:=qh hj;clear hj;clear hix;have HSn:=HS4;have hki:=fun u=>(Zik u).2.2
    have hm9:=Zc4 jI n 4 (d::r5);obtain⟨x9,hx9⟩:=eJ (rdP jI n 4 (d::r5));have hlr:((d::r5)).length≤r.length:=by exact hle4
    have htr:isT ((d::r5)):=ht4;have hL9:=fun u (hu:St w0 u [Ent.box b #[.string (txB (d::r5)),.bool false] 54,Ent.all [X,Ent.row 62 2 (.slice a es.length c) es.length (es.flatMap Zaa)]])=>hL 4 ((d::r5)) b w0 u _ (by omega) (by omega) (by unfold fuP at hn ⊢;omega) (by omega) htr hu
    rw[hx9] at hL9 hm9 hyy;obtain⟨e9,q9,fl9⟩:=x9;have hel9:e9.length≤1000:=by have:=hm9.2.1;simp only at this;omega
    have HL9:=qh hL9;obtain⟨e5,he5⟩:=eJ (es++e9++[(4,0)]);simp only at hyy;rw[show opK 3=4 from rfl,he5] at hyy;have hlen5:e5.length=es.length+e9.length+1:=by rw[← he5];simp;omega
    have Hhm9:=qh hm9;have Hhme:=qh hme;have Hhlen5:=qh hlen5;clear hlen5;have Hhx9:=qh hx9;clear hx9;have Hhe5:=qh he5;clear he5;have Hhyy:=qh hyy;clear hyy;clear hL9 hm9 hme 
    go_wp2_with (first
     | (go_at_call 70;refine(Zay (d::r5) false b _ Hht.out (HS4.out.cell (v:=.string (txB (d::r5))) 0 0 rfl rfl) (HS4.out.cell (v:=.bool false) 0 1 rfl rfl) (d) rfl).mono ?_;rintro e w' ⟨rfl,rfl⟩)
     | (go_at_call 73;refine(Zes _ _ _ ri Hri.out).mono ?_;rintro e w' ⟨rfl,rfl⟩)
     | (go_at_call 30;have hSp:=St.pack (A:=[Ent.box b #[.string (txB (d::r5)),.bool false] 54]) (R:=[X,Ent.row 62 2 (.slice a es.length c) es.length (es.flatMap Zaa)]) HSn.out;refine(HL9.out _ hSp).mono ?_;clear hSp;rintro e w2 ⟨a9,c9,r9,rfl,hr9,hl9,ht9,hS9⟩;have HS9:=qh (show St w0 w2 [Ent.box b #[.string (txB r9),.bool fl9] 54,Ent.row 62 2 (.slice a9 e9.length c9) e9.length (e9.flatMap Zaa),X,Ent.row 62 2 (.slice a es.length c) es.length (es.flatMap Zaa)] from St.unpack (A:=[Ent.box b #[.string (txB (d::r5)),.bool false] 54]) (A':=[Ent.box b #[.string (txB r9),.bool fl9] 54,Ent.row 62 2 (.slice a9 e9.length c9) e9.length (e9.flatMap Zaa)]) (R:=[X,Ent.row 62 2 (.slice a es.length c) es.length (es.flatMap Zaa)]) HSn.out (hS9.pick [0,2,1] (by decide)));clear hS9)
     | (go_at_call 72;have hS6:St w0 _ [Ent.box b #[.string (txB r9),.bool fl9] 54,Ent.row 62 2 (.slice a9 e9.length c9) e9.length (e9.flatMap Zaa),X,Ent.row 62 2 (.slice a es.length c) es.length (es.flatMap Zaa),Ent.box w2.heap.size #[.slice a es.length c,.slice a9 e9.length c9] 28]:=HS9.out.alloc w2.heap.size rfl #[.slice a es.length c,.slice a9 e9.length c9] 28;have HS6:=qh hS6;have hq1:=(hS6.boxlt 4 rfl).2;have hq2:=hS6.cell (v:=.slice a es.length c) 4 0 rfl rfl;have hq4:=hS6.cell (v:=.slice a9 e9.length c9) 4 1 rfl rfl;have hq3:=Zad (hS6.row 3 rfl);have hq5:=Zad (hS6.row 1 rfl);clear hS6;have hop:=ZeP 4 es e9 (.slice a es.length c) (.slice a9 e9.length c9) w2.heap.size 2 _ (Nat.le_trans hel (by decide)) (Nat.le_trans hel9 (by decide)) hq1 hq2 hq4 hq3 hq5;rw[Hhe5.out] at hop;refine hop.mono ?_;clear hq1 hq2 hq3 hq4 hq5 hop;rintro e w5 ⟨a6,c6,rfl,hS6⟩;have HS7:=qh ((HS6.out.cat hS6).pick [0,2,5] (by decide));clear hS6))
    have hm9:=Hhm9.out;have hme:=Hhme.out;have hlen5:=Hhlen5.out;have hyy:=Hhyy.out;have hlr9:r9.length≤r.length:=by omega
    have hlc:((d::r5)).length=r5.length+1:=rfl;have z1:=HS4.out.cell (v:=.bool false) 0 1 rfl rfl;have z2:=HS4.out.cell (v:=.string (txB (d::r5))) 0 0 rfl rfl;have z3:=HS7.out.cell (v:=.string (txB r9)) 0 0 rfl rfl;cases fl9 with
    | true =>
     have hy2:y=(e5,q9,true):=by rw[← hyy];cases kk<;>rfl
     go_roundw
     case rel=>exact .inl ⟨a6,c6,e5,r9,rfl,by rw[hy2],by rw[hy2],ht9,hlr9,HS7.out⟩
     case measure=>simp[stFl,HS7.out.cell (v:=.bool true) 0 1 rfl rfl,z1,z2]
    | false =>
     obtain rfl:=hr9 rfl;obtain⟨-,-,b3⟩:=hm9;obtain⟨b4,b5⟩:=b3 rfl;obtain⟨a1,a2,a3⟩:=hme;obtain⟨a4,a5⟩:=a3 rfl;simp only at b4 b5 a1 a2 a4 a5;have hmeas:meas r.length (e5,r9,false):=⟨by simp only;omega,by simp only;omega,fun _=>by simp only;omega⟩;go_roundw
     case rel=>exact .inr ⟨a6,c6,e5,r9,kk,rfl,hyy,by omega,hmeas,ht9,HS7.out⟩
     case measure =>simp only[stFl,HS7.out.cell (v:=.bool false) 0 1 rfl rfl,z1,z2,z3,ZaG];omega
   | false =>
    have hri0:ri<0:=by
     by_cases h:0≤ri
     ·rw[hix.1 h] at hj;cases hj
     omega
    have hyy2:y=(es,d::r5,false):=by
     rw[← hyy];unfold ZaO;rw[if_neg (by simp)];have hc:ZeB jI 3 (d::r5)=none:=by show(if 3=1∧d=124∨3=2∧d=38 then some r5 else if 3=3∧jI d=true then some (d::r5) else none)=none;rw[if_neg (by omega),if_neg (by rw[hj];simp)]
     rw[hc]
    have Hhyy:=qh hyy2;have Hhj:=qh hj;clear hj;clear hyy hyy2 hme hix;by_cases hd0:d=0
    ·subst hd0;go_wp2_with (go_at_call 70;refine(Zay (0::r5) false b _ Hht.out (HS4.out.cell (v:=.string (txB (0::r5))) 0 0 rfl rfl) (HS4.out.cell (v:=.bool false) 0 1 rfl rfl) (0) rfl).mono ?_;rintro e w' ⟨rfl,rfl⟩);go_ret;rw[Hhyy.out];exact⟨a,c,(0::r5),rfl,fun _=>rfl,by omega,ht4,HS4.out⟩
    have nd0:((d:Int)=0)=False:=by simp;omega
    have nd1:(d=0)=False:=by simp;omega
    have nd2:((d:Int) != 0)=true:=by simp;omega
    go_wp2_with (first|(go_at_call 70;refine(Zay (d::r5) false b _ Hht.out (HS4.out.cell (v:=.string (txB (d::r5))) 0 0 rfl rfl) (HS4.out.cell (v:=.bool false) 0 1 rfl rfl) (d) rfl).mono ?_;rintro e w' ⟨rfl,rfl⟩)|(go_at_call 73;refine(Zes _ _ _ ri Hri.out).mono ?_;rintro e w' ⟨rfl,rfl⟩));go_ret;rw[Hhyy.out];exact⟨a,c,(d::r5),rfl,fun _=>rfl,by omega,ht4,HS4.out⟩
theorem Zhn:∀ n,ZpK n∧ZpI n∧ZhK n
 | 0=>⟨fun r b w0 w X hn=>by unfold fuP at hn;omega,fun r b w0 w X hn=>by unfold fuP at hn;omega,fun l r b w0 w X _ h4 hn=>by unfold fuP at hn;omega⟩
 | n+1=>by
  obtain⟨hA,hS,hL⟩:=Zhn n;refine⟨ZnI n hL,Zme n hA,fun l r b w0 w X h1 h4 hn hl ht hS0 => ?_⟩;obtain rfl|rfl|rfl|rfl:l=1∨l=2∨l=3∨l=4:=by omega
  ·exact Zj3 n hL r b w0 w X hn hl ht hS0
  ·exact Zj2 n hL r b w0 w X hn hl ht hS0
  ·exact Zj1 n hL r b w0 w X hn hl ht hS0
  exact Zj0 n hL hS r b w0 w X hn hl ht hS0
end Go.Proofs.YtncekbbhgipdlaaGreat
namespace Go.Proofs.YtncekbbhgipdlaaGreat
theorem ZfR {xs ys:List (Int × Int)} {p:Int × Int}:(xs++p::ys).getD xs.length (0,0)=p:=by simp
theorem ZhR {es pre suf:List (Int × Int)} {p:Int × Int} (he:es=pre++p::suf) (hp:Zae p=0):stkB es (pre.length+1)=stkB es pre.length++[pre.length]:=by
 have h:es.getD pre.length (0,0)=p:=by rw[he];exact ZfR
 rw[ZcP];unfold begB;rw[h,hp];simp
theorem Zmb {es pre xs suf:List (Int × Int)} {p:Int × Int} (he:es=pre++xs++p::suf) (hp:Zae p=1) (hx:stkB es (pre.length+xs.length)=stkB es pre.length++[pre.length]):stkB es (pre.length+(xs.length+1))=stkB es pre.length++[pre.length]:=by
 have h:es.getD (pre.length+xs.length) (0,0)=p:=by rw[he,← List.length_append];exact ZfR
 rw[← Nat.add_assoc,ZcP];unfold begB;rw[h,hp,hx];simp
theorem ZjM {es pre xs ys suf:List (Int × Int)} {p:Int × Int} (he:es=pre++xs++ys++p::suf) (hp:Zae p=2) (hx:stkB es (pre.length+xs.length)=stkB es pre.length++[pre.length]) (hy:stkB es (pre.length+xs.length+ys.length)=stkB es (pre.length+xs.length)++[pre.length+xs.length]) :
  stkB es (pre.length+(xs.length+(ys.length+1)))=stkB es pre.length++[pre.length]:=by
 have h:es.getD (pre.length+xs.length+ys.length) (0,0)=p:=by rw[he,← List.length_append,← List.length_append];exact ZfR
 rw[show pre.length+(xs.length+(ys.length+1))=pre.length+xs.length+ys.length+1 by omega,ZcP];unfold begB;rw[h,hp,hy,hx];simp
theorem ZnV:∀ (t:Ex) (es pre suf:List (Int × Int)),es=pre++t.post++suf→stkB es (pre.length+t.post.length)=stkB es pre.length++[pre.length]:=by
 intro t
 induction t with
 | zero=>intro es pre suf he;exact ZhR (p:=(1,0)) (suf:=suf) (by rw[he];simp[Ex.post]) Zeh
 | one=>intro es pre suf he;exact ZhR (p:=(2,0)) (suf:=suf) (by rw[he];simp[Ex.post]) Zeg
 | ltr c=>intro es pre suf he;exact ZhR (p:=(3,(c.val:Int))) (suf:=suf) (by rw[he];simp[Ex.post]) (ZdI c)
 | neg a ha =>intro es pre suf he;have h1:=ha es pre ((7,0)::suf) (by rw[he];simp[Ex.post]);have h2:=Zmb (xs:=a.post) (p:=(7,0)) (suf:=suf) (by rw[he];simp[Ex.post]) Zgd h1;simpa [Ex.post] using h2
 | star a ha =>intro es pre suf he;have h1:=ha es pre ((8,0)::suf) (by rw[he];simp[Ex.post]);have h2:=Zmb (xs:=a.post) (p:=(8,0)) (suf:=suf) (by rw[he];simp[Ex.post]) Zd1 h1;simpa [Ex.post] using h2
 | join a b ha hb =>intro es pre suf he;have h1:=ha es pre (b.post++(4,0)::suf) (by rw[he];simp[Ex.post]);have h2:=hb es (pre++a.post) ((4,0)::suf) (by rw[he];simp[Ex.post]);rw[List.length_append] at h2;have h3:=ZjM (xs:=a.post) (ys:=b.post) (p:=(4,0)) (suf:=suf) (by rw[he];simp[Ex.post]) Zd2 h1 h2;simpa [Ex.post] using h3
 | alt a b ha hb =>intro es pre suf he;have h1:=ha es pre (b.post++(5,0)::suf) (by rw[he];simp[Ex.post]);have h2:=hb es (pre++a.post) ((5,0)::suf) (by rw[he];simp[Ex.post]);rw[List.length_append] at h2;have h3:=ZjM (xs:=a.post) (ys:=b.post) (p:=(5,0)) (suf:=suf) (by rw[he];simp[Ex.post]) Zge h1 h2;simpa [Ex.post] using h3
 | both a b ha hb =>intro es pre suf he;have h1:=ha es pre (b.post++(6,0)::suf) (by rw[he];simp[Ex.post]);have h2:=hb es (pre++a.post) ((6,0)::suf) (by rw[he];simp[Ex.post]);rw[List.length_append] at h2;have h3:=ZjM (xs:=a.post) (ys:=b.post) (p:=(6,0)) (suf:=suf) (by rw[he];simp[Ex.post]) Zd3 h1 h2;simpa [Ex.post] using h3
theorem ZpF (a b:Ex) (p:Int × Int):begB (a.post++b.post++[p]) (a.post.length+b.post.length-1)=a.post.length:=by have h2:=ZnV b (a.post++b.post++[p]) a.post [p] rfl;have hb:=Zao b;rw[show a.post.length+b.post.length=(a.post.length+b.post.length-1)+1 by omega,ZcP] at h2;have:=List.append_inj_right' h2 rfl;simpa using this
end Go.Proofs.YtncekbbhgipdlaaGreat
