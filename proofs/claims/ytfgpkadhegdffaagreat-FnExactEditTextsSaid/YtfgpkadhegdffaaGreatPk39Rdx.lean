/-
  The walk over the reference's l20Word: a text is drawn, most often a word (weak: some text of at most ten bytes).
  Conditions: the reader is at hand, its bytes read as such.
-/
import Derived.Test.YtfgpkadhegdffaaGreatPk36Rdj
import Derived.Test.YtfgpkadhegdffaaGreatPk38Opd
set_option maxHeartbeats 8000000
set_option maxRecDepth 100000
namespace Go.Proofs.YtfgpkadhegdffaaGreat
open Go.RowKit
theorem txB_append (u v:List Nat):txB u ++ txB v = txB (u ++ v):=by
 apply ByteArray.ext
 simp [txB,ByteArray.data_append]
theorem strOfNums_let (c:Nat) (hc:c < 3):strOfNums [97+(c:Int)] = txB [97+c]:=by
 obtain rfl | rfl | rfl:c = 0 ∨ c = 1 ∨ c = 2:=by omega
 all_goals rfl
theorem conv_let (c:Nat) (hc:c < 3) (w:World) (b cap:Nat) (h:w.cell? ⟨b,0,none⟩ = some (.int .u8 (97+(c:Int)))) :
  (convert 36 9 (.slice (some ⟨b,0,none⟩) 1 cap)).run Tryz.prog w = .ok (.string (txB [97+c])) w:=by
 rw [← strOfNums_let c hc]
 exact run_convert_bytes_arg w 36 5 Tryz.underlying36 Tryz.underlying5 b 0 1 cap [97+(c:Int)] rfl (fun i hi => by
  obtain rfl:i = 0:=by omega
  simpa using h) 9 Tryz.underlying9
theorem wrap8_let (c:Nat) (hc:c < 3):IntKind.u8.wrap (97+(c:Int)) = 97+(c:Int):=by
 obtain rfl | rfl | rfl:c = 0 ∨ c = 1 ∨ c = 2:=by omega
 all_goals rfl
theorem add_tt (u v:List Nat) (bu bv:ByteArray) (hbu:bu = txB u) (hbv:bv = txB v) (hl:u.length+v.length ≤ 1000000):(∀ w':World,(Op.stringOp .add bu bv).run Tryz.prog w' = .ok (.string (txB (u ++ v))) w') ∧ ¬ 9223372036854775807 < bu.size+bv.size:=by
 subst hbu
 subst hbv
 have h1:=txB_size u
 have h2:=txB_size v
 refine ⟨fun w' => ?_,by omega⟩
 rw [run_string_add_sum w' _ _ (by omega),txB_append]
theorem last_post:∀ t:Ex,∃ pre p,t.post = pre ++ [p] ∧ bnK p.1 = (bnd t:Int)
 | .zero => ⟨[],(1,0),rfl,rfl⟩
 | .one => ⟨[],(2,0),rfl,rfl⟩
 | .ltr c => ⟨[],(3,(c.val:Int)),rfl,rfl⟩
 | .join a b => ⟨a.post ++ b.post,(4,0),rfl,rfl⟩
 | .alt a b => ⟨a.post ++ b.post,(5,0),rfl,rfl⟩
 | .both a b => ⟨a.post ++ b.post,(6,0),rfl,rfl⟩
 | .neg a => ⟨a.post,(7,0),rfl,rfl⟩
 | .star a => ⟨a.post,(8,0),rfl,rfl⟩
def TextC (t:Ex):Prop:=∀ (v:Value) (w:World),Pairs 0 w v t.post → Calls Tryz.prog 117 #[v] w fun e w' => e = .returned (.string (txB (prE t))) ∧ Below w.heap.size w w'
def BrkC (t:Ex):Prop:=∀ (l:Nat) (v:Value) (w:World),Pairs 0 w v t.post → Calls Tryz.prog 150 #[v,.int .i64 (l:Int)] w fun e w' => e = .returned (.string (txB (brk l t (prE t)))) ∧ Below w.heap.size w w'
theorem brk_of (t:Ex) (h60:t.post.length ≤ 60) (hT:TextC t):BrkC t:=by
 intro l v w h
 have hx:=qh (hT v w h)
 obtain ⟨pre,p,hpost,hb⟩:=last_post t
 have hbd:=bnd_pos t
 have hlen:=prE_len t
 have h2:=h
 rw [hpost] at h2
 obtain ⟨bb,off,cap,rfl,hc1,hc2,hbl,hcell⟩:=lastP h2
 have hpl:pre.length ≤ 59:=by rw [hpost] at h60;simp at h60;omega
 obtain ⟨m,hm⟩:∃ m,m = pre.length:=⟨_,rfl⟩
 rw [← hm] at hc1 hcell hx hpl
 rw [← hm]
 have hcw:=hcell w (Below.refl _ _)
 obtain ⟨k1,k2⟩:=hcw
 obtain ⟨k,x⟩:=p
 have hw1:IntKind.i64.wrap ((m:Int)+1 - 1) = (m:Int):=by rw [IntWalk.i64_in _ (by omega)];omega
 obtain ⟨B,hB⟩:∃ B,B = bnd t:=⟨_,rfl⟩
 rw [← hB] at hb hbd
 obtain ⟨T,hTT⟩:∃ T,T = prE t:=⟨_,rfl⟩
 rw [← hTT] at hx hlen ⊢
 have hbrk:brk l t T = if B < l then 40 :: (T ++ [41]) else T:=by rw [hB];rfl
 rw [hbrk]
 have Hhb:=qh hb;clear hb
 have HhB:=qh hB;clear hB
 have Hhm:=qh hm;clear hm
 have Hhpost:=qh hpost;clear hpost
 have HhTT:=qh hTT;clear hTT
 have Hhbrk:=qh hbrk;clear hbrk
 clear h h2 hcell hT
 by_cases hlt:B < l
 ·have hltI:(B:Int) < (l:Int):=by omega
  rw [if_pos hlt]
  obtain ⟨add1,n1⟩:=add_tt [40] T { data:=#[40] } (txB T) rfl rfl (by simp;omega)
  obtain ⟨add2,n2⟩:=add_tt ([40] ++ T) [41] (txB ([40] ++ T)) { data:=#[41] } rfl rfl (by simp;omega)
  have e2:[40] ++ T ++ [41] = 40 :: (T ++ [41]):=by simp
  rw [e2] at add2
  obtain ⟨s1,hs1⟩:∃ s1,txB ([40] ++ T) = s1:=⟨_,rfl⟩
  rw [hs1] at add1 add2 n2
  have Hhs1:=qh hs1;clear hs1
  have He2:=qh e2;clear e2
  go_enter Tryz.func150, Tryz.ntmps150
  go_wp2_with (first
   | (go_at_call 113;refine (binding_any k _ _ Hhb.out).mono ?_;rintro e w' ⟨rfl,rfl⟩)
   | (go_at_call 117;refine (hx.out).mono ?_;rintro e w1 ⟨rfl,hb1⟩))
  go_ret
  exact ⟨rfl,hb1⟩
 ·have hleI:(l:Int) ≤ (B:Int):=by omega
  rw [if_neg hlt]
  clear hlt
  go_enter Tryz.func150, Tryz.ntmps150
  go_wp2_with (first
   | (go_at_call 113;refine (binding_any k _ _ Hhb.out).mono ?_;rintro e w' ⟨rfl,rfl⟩)
   | (go_at_call 117;refine (hx.out).mono ?_;rintro e w1 ⟨rfl,hb1⟩))
  go_ret
  exact ⟨rfl,hb1⟩
theorem sign4 (W:World):∃ w3 w4 w5,True ∧ (Instr.mapUpdate 160 (.map (some W.heap.size)) (.int .i64 4) (.string { data:=#[] })).run Tryz.prog (W.alloc (.map #[] 0)) = .ok () w3 ∧
  (Instr.mapUpdate 160 (.map (some W.heap.size)) (.int .i64 5) (.string { data:=#[124] })).run Tryz.prog w3 = .ok () w4 ∧ (Instr.mapUpdate 160 (.map (some W.heap.size)) (.int .i64 6) (.string { data:=#[38] })).run Tryz.prog w4 = .ok () w5 ∧
  (Instr.lookup 160 (.map (some W.heap.size)) (.int .i64 4) false).run Tryz.prog w5 = .ok (.string { data:=#[] }) w5 ∧ Below W.heap.size W w5:=by
 obtain ⟨l4,h4⟩:=Tryz.keyOfInt 4 (by unfold fitI;omega)
 obtain ⟨l5,h5⟩:=Tryz.keyOfInt 5 (by unfold fitI;omega)
 obtain ⟨l6,h6⟩:=Tryz.keyOfInt 6 (by unfold fitI;omega)
 have HM:=MapL.made (P:=Tryz.prog) (kt:=3) (enc:=intEnc) W
 obtain ⟨w3,hr3,hm3,hg3⟩:=HM.store Tryz.lawInt intEnc_inj Tryz.underlying160 h4 (.string { data:=#[] })
 obtain ⟨w4,hr4,hm4,hg4⟩:=hm3.store Tryz.lawInt intEnc_inj Tryz.underlying160 h5 (.string { data:=#[124] })
 obtain ⟨w5,hr5,hm5,hg5⟩:=hm4.store Tryz.lawInt intEnc_inj Tryz.underlying160 h6 (.string { data:=#[38] })
 have hlk:=hm5.lookup Tryz.lawInt intEnc_inj Tryz.underlying160 (z:=.string { data:=#[] }) (by kernel_rfl) h4
 refine ⟨w3,w4,w5,trivial,hr3,hr4,hr5,hlk,?_⟩
 have hb:∀ k,some W.heap.size = some k → W.heap.size ≤ k:=fun k hk => by cases hk;exact Nat.le_refl _
 have b0:=(Below.refl W.heap.size W).alloc (Nat.le_refl _) (.map #[] 0)
 have b1:=b0.grown hg3 b0.size hb
 have b2:=b1.grown hg4 b1.size hb
 exact b2.grown hg5 b2.size hb
theorem sign5 (W:World):∃ w3 w4 w5,True ∧ (Instr.mapUpdate 160 (.map (some W.heap.size)) (.int .i64 4) (.string { data:=#[] })).run Tryz.prog (W.alloc (.map #[] 0)) = .ok () w3 ∧
  (Instr.mapUpdate 160 (.map (some W.heap.size)) (.int .i64 5) (.string { data:=#[124] })).run Tryz.prog w3 = .ok () w4 ∧ (Instr.mapUpdate 160 (.map (some W.heap.size)) (.int .i64 6) (.string { data:=#[38] })).run Tryz.prog w4 = .ok () w5 ∧
  (Instr.lookup 160 (.map (some W.heap.size)) (.int .i64 5) false).run Tryz.prog w5 = .ok (.string { data:=#[124] }) w5 ∧ Below W.heap.size W w5:=by
 obtain ⟨l4,h4⟩:=Tryz.keyOfInt 4 (by unfold fitI;omega)
 obtain ⟨l5,h5⟩:=Tryz.keyOfInt 5 (by unfold fitI;omega)
 obtain ⟨l6,h6⟩:=Tryz.keyOfInt 6 (by unfold fitI;omega)
 have HM:=MapL.made (P:=Tryz.prog) (kt:=3) (enc:=intEnc) W
 obtain ⟨w3,hr3,hm3,hg3⟩:=HM.store Tryz.lawInt intEnc_inj Tryz.underlying160 h4 (.string { data:=#[] })
 obtain ⟨w4,hr4,hm4,hg4⟩:=hm3.store Tryz.lawInt intEnc_inj Tryz.underlying160 h5 (.string { data:=#[124] })
 obtain ⟨w5,hr5,hm5,hg5⟩:=hm4.store Tryz.lawInt intEnc_inj Tryz.underlying160 h6 (.string { data:=#[38] })
 have hlk:=hm5.lookup Tryz.lawInt intEnc_inj Tryz.underlying160 (z:=.string { data:=#[] }) (by kernel_rfl) h5
 refine ⟨w3,w4,w5,trivial,hr3,hr4,hr5,hlk,?_⟩
 have hb:∀ k,some W.heap.size = some k → W.heap.size ≤ k:=fun k hk => by cases hk;exact Nat.le_refl _
 have b0:=(Below.refl W.heap.size W).alloc (Nat.le_refl _) (.map #[] 0)
 have b1:=b0.grown hg3 b0.size hb
 have b2:=b1.grown hg4 b1.size hb
 exact b2.grown hg5 b2.size hb
theorem sign6 (W:World):∃ w3 w4 w5,True ∧ (Instr.mapUpdate 160 (.map (some W.heap.size)) (.int .i64 4) (.string { data:=#[] })).run Tryz.prog (W.alloc (.map #[] 0)) = .ok () w3 ∧
  (Instr.mapUpdate 160 (.map (some W.heap.size)) (.int .i64 5) (.string { data:=#[124] })).run Tryz.prog w3 = .ok () w4 ∧ (Instr.mapUpdate 160 (.map (some W.heap.size)) (.int .i64 6) (.string { data:=#[38] })).run Tryz.prog w4 = .ok () w5 ∧
  (Instr.lookup 160 (.map (some W.heap.size)) (.int .i64 6) false).run Tryz.prog w5 = .ok (.string { data:=#[38] }) w5 ∧ Below W.heap.size W w5:=by
 obtain ⟨l4,h4⟩:=Tryz.keyOfInt 4 (by unfold fitI;omega)
 obtain ⟨l5,h5⟩:=Tryz.keyOfInt 5 (by unfold fitI;omega)
 obtain ⟨l6,h6⟩:=Tryz.keyOfInt 6 (by unfold fitI;omega)
 have HM:=MapL.made (P:=Tryz.prog) (kt:=3) (enc:=intEnc) W
 obtain ⟨w3,hr3,hm3,hg3⟩:=HM.store Tryz.lawInt intEnc_inj Tryz.underlying160 h4 (.string { data:=#[] })
 obtain ⟨w4,hr4,hm4,hg4⟩:=hm3.store Tryz.lawInt intEnc_inj Tryz.underlying160 h5 (.string { data:=#[124] })
 obtain ⟨w5,hr5,hm5,hg5⟩:=hm4.store Tryz.lawInt intEnc_inj Tryz.underlying160 h6 (.string { data:=#[38] })
 have hlk:=hm5.lookup Tryz.lawInt intEnc_inj Tryz.underlying160 (z:=.string { data:=#[] }) (by kernel_rfl) h6
 refine ⟨w3,w4,w5,trivial,hr3,hr4,hr5,hlk,?_⟩
 have hb:∀ k,some W.heap.size = some k → W.heap.size ≤ k:=fun k hk => by cases hk;exact Nat.le_refl _
 have b0:=(Below.refl W.heap.size W).alloc (Nat.le_refl _) (.map #[] 0)
 have b1:=b0.grown hg3 b0.size hb
 have b2:=b1.grown hg4 b1.size hb
 exact b2.grown hg5 b2.size hb
theorem text_zero:TextC .zero:=by
 intro v w h
 obtain ⟨bb,off,cap,rfl,hc1,hc2,hbl,hcell⟩:=lastP (pre:=[]) (p:=(1,0)) h
 simp only [List.length_nil,Nat.zero_add,Nat.zero_mul,Nat.add_zero] at hc1 hcell
 simp only [List.length_nil,Nat.zero_add]
 obtain ⟨k1,k2⟩:=hcell w (Below.refl _ _)
 have HS0:=qh ((St.start w).alloc w.heap.size rfl #[.int .i64 1,.int .i64 0] 59)
 clear h hcell
 go_enter Tryz.func117, Tryz.ntmps117
 go_wp2_with (go_at_call 113;refine (binding_any 1 _ 6 rfl).mono ?_;rintro e w' ⟨rfl,rfl⟩)
 go_ret
 exact ⟨rfl,HS0.out.bel⟩
theorem text_one:TextC .one:=by
 intro v w h
 obtain ⟨bb,off,cap,rfl,hc1,hc2,hbl,hcell⟩:=lastP (pre:=[]) (p:=(2,0)) h
 simp only [List.length_nil,Nat.zero_add,Nat.zero_mul,Nat.add_zero] at hc1 hcell
 simp only [List.length_nil,Nat.zero_add]
 obtain ⟨k1,k2⟩:=hcell w (Below.refl _ _)
 have HS0:=qh ((St.start w).alloc w.heap.size rfl #[.int .i64 2,.int .i64 0] 59)
 clear h hcell
 go_enter Tryz.func117, Tryz.ntmps117
 go_wp2_with (go_at_call 113;refine (binding_any 2 _ 6 rfl).mono ?_;rintro e w' ⟨rfl,rfl⟩)
 go_ret
 exact ⟨rfl,HS0.out.bel⟩
theorem text_ltr (c:Fin 3):TextC (.ltr c):=by
 intro v w h
 obtain ⟨c,hc⟩:=c
 obtain ⟨bb,off,cap,rfl,hc1,hc2,hbl,hcell⟩:=lastP (pre:=[]) (p:=(3,(c:Int))) h
 simp only [List.length_nil,Nat.zero_add,Nat.zero_mul,Nat.add_zero] at hc1 hcell
 simp only [List.length_nil,Nat.zero_add]
 obtain ⟨k1,k2⟩:=hcell w (Below.refl _ _)
 have HS0:=qh ((St.start w).alloc w.heap.size rfl #[.int .i64 3,.int .i64 (c:Int)] 59)
 have hpr:txB (prE (.ltr ⟨c,hc⟩)) = wdB [c]:=by
  obtain rfl | rfl | rfl:c = 0 ∨ c = 1 ∨ c = 2:=by omega
  all_goals rfl
 rw [hpr]
 have Hhpr:=qh hpr;clear hpr
 clear h hcell
 go_enter Tryz.func117, Tryz.ntmps117
 go_wp2_with (first
  | (go_at_call 113;refine (binding_any 3 _ 6 rfl).mono ?_;rintro e w' ⟨rfl,rfl⟩)
  | (go_at_call 107;refine (letterText_any c hc _).mono ?_;rintro e w' ⟨rfl,rfl⟩))
 go_ret
 exact ⟨rfl,HS0.out.bel⟩
theorem text_neg (a:Ex) (h60:(Ex.neg a).post.length ≤ 60) (ha:BrkC a):TextC (.neg a):=by
 intro v w h
 have hP:=h
 rw [show (Ex.neg a).post = a.post ++ [(7,0)] from rfl] at hP
 obtain ⟨bb,off,cap,rfl,hc1,hc2,hbl,hcell⟩:=lastP hP
 have hpl:a.post.length ≤ 59:=by simp [Ex.post] at h60;omega
 have hla:=prE_len a
 have hba:=brk_len 4 a (prE a)
 have HS0:=qh ((St.start w).alloc w.heap.size rfl #[.int .i64 7,.int .i64 0] 59)
 have hop:=fun (u:World) (hu:Below w.heap.size w u) => operands1_any a (.neg a) 7 0 rfl pn_neg _ u h60 (h.below hu)
 obtain ⟨m,hm⟩:∃ m,m = a.post.length:=⟨_,rfl⟩
 rw [← hm] at hc1 hcell hpl hop hla
 rw [← hm]
 obtain ⟨k1,k2⟩:=hcell w (Below.refl _ _)
 have hw1:IntKind.i64.wrap ((m:Int)+1 - 1) = (m:Int):=by rw [IntWalk.i64_in _ (by omega)];omega
 obtain ⟨A,hA⟩:∃ A,A = brk 4 a (prE a):=⟨_,rfl⟩
 have hpr:prE (.neg a) = [33] ++ A:=by rw [hA];simp [prE]
 rw [hpr]
 have HA:=qh (fun (v:Value) (u:World) (hu:Pairs 0 u v a.post) => by have:=ha 4 v u hu;rw [← hA] at this;exact this)
 rw [← hA] at hba
 obtain ⟨add1,n1⟩:=add_tt [33] A { data:=#[33] } (txB A) rfl rfl (by simp;omega)
 obtain ⟨s1,hs1⟩:∃ s1,txB ([33] ++ A) = s1:=⟨_,rfl⟩
 rw [hs1] at add1
 rw [hs1]
 have HOP:=qh hop
 have Hhs1:=qh hs1;clear hs1
 have HhA:=qh hA;clear hA
 have Hhpr:=qh hpr;clear hpr
 have Hhm:=qh hm;clear hm
 clear h hP hcell hop ha hba hla
 go_enter Tryz.func117, Tryz.ntmps117
 go_wp2_with (first
  | (go_at_call 113;refine (binding_any 7 _ 4 rfl).mono ?_;rintro e w' ⟨rfl,rfl⟩)
  | (go_at_call 149;refine (HOP.out _ HS0.out.bel).mono ?_;rintro e w1 ⟨g,va,rfl,hS,hPa⟩;have HS1:=qh (show St w w1 [Ent.box w.heap.size #[.int .i64 7,.int .i64 0] 59,Ent.row 40 1 (.slice (some ⟨g,0,none⟩) 1 1) 1 [va]] from HS0.out.cat hS);have HPa:=qh hPa;have q0:=HS1.out.rcell (v:=va) 1 0 rfl (by omega) rfl;clear hS hPa)
  | (go_at_call 150;refine (HA.out _ _ HPa.out).mono ?_;rintro e w2 ⟨rfl,hb2⟩;have HS2:=qh (HS1.out.call hb2);have r0:=HS2.out.cell (v:=.int .i64 7) 0 0 rfl rfl;clear hb2))
 go_ret
 exact ⟨rfl,HS2.out.bel⟩
theorem text_star (a:Ex) (h60:(Ex.star a).post.length ≤ 60) (ha:BrkC a):TextC (.star a):=by
 intro v w h
 have hP:=h
 rw [show (Ex.star a).post = a.post ++ [(8,0)] from rfl] at hP
 obtain ⟨bb,off,cap,rfl,hc1,hc2,hbl,hcell⟩:=lastP hP
 have hpl:a.post.length ≤ 59:=by simp [Ex.post] at h60;omega
 have hla:=prE_len a
 have hba:=brk_len 5 a (prE a)
 have HS0:=qh ((St.start w).alloc w.heap.size rfl #[.int .i64 8,.int .i64 0] 59)
 have hop:=fun (u:World) (hu:Below w.heap.size w u) => operands1_any a (.star a) 8 0 rfl pn_star _ u h60 (h.below hu)
 obtain ⟨m,hm⟩:∃ m,m = a.post.length:=⟨_,rfl⟩
 rw [← hm] at hc1 hcell hpl hop hla
 rw [← hm]
 obtain ⟨k1,k2⟩:=hcell w (Below.refl _ _)
 have hw1:IntKind.i64.wrap ((m:Int)+1 - 1) = (m:Int):=by rw [IntWalk.i64_in _ (by omega)];omega
 obtain ⟨A,hA⟩:∃ A,A = brk 5 a (prE a):=⟨_,rfl⟩
 have hpr:prE (.star a) = A ++ [42]:=by rw [hA];simp [prE]
 rw [hpr]
 have HA:=qh (fun (v:Value) (u:World) (hu:Pairs 0 u v a.post) => by have:=ha 5 v u hu;rw [← hA] at this;exact this)
 rw [← hA] at hba
 obtain ⟨add1,n1⟩:=add_tt A [42] (txB A) { data:=#[42] } rfl rfl (by simp;omega)
 obtain ⟨s1,hs1⟩:∃ s1,txB (A ++ [42]) = s1:=⟨_,rfl⟩
 rw [hs1] at add1
 rw [hs1]
 have HOP:=qh hop
 have Hhs1:=qh hs1;clear hs1
 have HhA:=qh hA;clear hA
 have Hhpr:=qh hpr;clear hpr
 have Hhm:=qh hm;clear hm
 clear h hP hcell hop ha hba hla
 go_enter Tryz.func117, Tryz.ntmps117
 go_wp2_with (first
  | (go_at_call 113;refine (binding_any 8 _ 5 rfl).mono ?_;rintro e w' ⟨rfl,rfl⟩)
  | (go_at_call 149;refine (HOP.out _ HS0.out.bel).mono ?_;rintro e w1 ⟨g,va,rfl,hS,hPa⟩;have HS1:=qh (show St w w1 [Ent.box w.heap.size #[.int .i64 8,.int .i64 0] 59,Ent.row 40 1 (.slice (some ⟨g,0,none⟩) 1 1) 1 [va]] from HS0.out.cat hS);have HPa:=qh hPa;have q0:=HS1.out.rcell (v:=va) 1 0 rfl (by omega) rfl;clear hS hPa)
  | (go_at_call 150;refine (HA.out _ _ HPa.out).mono ?_;rintro e w2 ⟨rfl,hb2⟩;have HS2:=qh (HS1.out.call hb2);have r0:=HS2.out.cell (v:=.int .i64 8) 0 0 rfl rfl;clear hb2))
 go_ret
 exact ⟨rfl,HS2.out.bel⟩
theorem text_join (a b:Ex) (h60:(Ex.join a b).post.length ≤ 60) (ha:BrkC a) (hb:BrkC b):TextC (.join a b):=by
 intro v w h
 have hP:=h
 rw [show (Ex.join a b).post = (a.post ++ b.post) ++ [(4,0)] from rfl] at hP
 obtain ⟨bb,off,cap,rfl,hc1,hc2,hbl,hcell⟩:=lastP hP
 have hpl:(a.post ++ b.post).length ≤ 59:=by
  have h1:(Ex.join a b).post.length = (a.post ++ b.post).length+1:=by simp [Ex.post];omega
  omega
 have hla:=prE_len a
 have hlb:=prE_len b
 have hba:=brk_len 3 a (prE a)
 have hbb:=brk_len 4 b (prE b)
 have hab:a.post.length+b.post.length ≤ 59:=by simpa using hpl
 have HS0:=qh ((St.start w).alloc w.heap.size rfl #[.int .i64 4,.int .i64 0] 59)
 have hop:=fun (u:World) (hu:Below w.heap.size w u) => operands2_any a b (.join a b) 4 0 rfl pn_join _ u h60 (h.below hu)
 obtain ⟨m,hm⟩:∃ m,m = (a.post ++ b.post).length:=⟨_,rfl⟩
 rw [← hm] at hc1 hcell hpl hop
 rw [← hm]
 obtain ⟨k1,k2⟩:=hcell w (Below.refl _ _)
 have hw1:IntKind.i64.wrap ((m:Int)+1 - 1) = (m:Int):=by rw [IntWalk.i64_in _ (by omega)];omega
 obtain ⟨A,hA⟩:∃ A,A = brk 3 a (prE a):=⟨_,rfl⟩
 obtain ⟨B,hB⟩:∃ B,B = brk 4 b (prE b):=⟨_,rfl⟩
 have hpr:prE (.join a b) = (A ++ []) ++ B:=by rw [hA,hB];simp [prE]
 rw [hpr]
 have HA:=qh (fun (v:Value) (u:World) (hu:Pairs 0 u v a.post) => (show Calls Tryz.prog 150 #[v,.int .i64 3] u fun e w' => e = .returned (.string (txB A)) ∧ Below u.heap.size u w' by have:=ha 3 v u hu;rw [← hA] at this;exact this))
 have HB:=qh (fun (v:Value) (u:World) (hu:Pairs 0 u v b.post) => (show Calls Tryz.prog 150 #[v,.int .i64 4] u fun e w' => e = .returned (.string (txB B)) ∧ Below u.heap.size u w' by have:=hb 4 v u hu;rw [← hB] at this;exact this))
 rw [← hA] at hba
 rw [← hB] at hbb
 obtain ⟨add1,n1⟩:=add_tt A [] (txB A) { data:=#[] } rfl rfl (by simp;omega)
 obtain ⟨add2,n2⟩:=add_tt (A ++ []) B (txB (A ++ [])) (txB B) rfl rfl (by simp;omega)
 obtain ⟨s1,hs1⟩:∃ s1,txB (A ++ []) = s1:=⟨_,rfl⟩
 obtain ⟨s2,hs2⟩:∃ s2,txB ((A ++ []) ++ B) = s2:=⟨_,rfl⟩
 rw [hs1] at add1 add2 n2
 rw [hs2] at add2
 rw [hs2]
 have HOP:=qh hop
 have Hhs1:=qh hs1;clear hs1
 have Hhs2:=qh hs2;clear hs2
 have HhA:=qh hA;clear hA
 have HhB:=qh hB;clear hB
 have Hhpr:=qh hpr;clear hpr
 have Hhm:=qh hm;clear hm
 have hmk:=@run_makeMap Tryz.prog
 clear h hP hcell hop ha hb hba hbb hla hlb
 go_enter Tryz.func117, Tryz.ntmps117
 go_wp2_with (first
  | (go_at_call 113;refine (binding_any 4 _ 3 rfl).mono ?_;rintro e w' ⟨rfl,rfl⟩)
  | (go_at_call 149;refine (HOP.out _ HS0.out.bel).mono ?_;rintro e w1 ⟨g,va,vb,rfl,hS,hPa,hPb⟩;have HS1:=qh (show St w w1 [Ent.box w.heap.size #[.int .i64 4,.int .i64 0] 59,Ent.row 40 1 (.slice (some ⟨g,0,none⟩) 2 2) 2 [va,vb]] from HS0.out.cat hS);have HPa:=qh hPa;have HPb:=qh hPb;have q0:=HS1.out.rcell (v:=va) 1 0 rfl (by omega) rfl;clear hS hPa hPb)
  | (go_at_call 150;(with_reducible refine (HA.out _ _ HPa.out).mono ?_);rintro e w2 ⟨rfl,hb2⟩;have HS2:=qh (HS1.out.call hb2);have HPb2:=qh (HPb.out.below hb2);have r0:=HS2.out.cell (v:=.int .i64 4) 0 0 rfl rfl;have r1:=HS2.out.cell (v:=.int .i64 0) 0 1 rfl rfl;obtain ⟨w3,w4,w5,hmm,hu1,hu2,hu3,hlk,hmb⟩:=sign4 w2;have HS3:=qh (HS2.out.call hmb);have HPb3:=qh (HPb2.out.below hmb);have r3:=HS3.out.cell (v:=.int .i64 4) 0 0 rfl rfl;have r4:=HS3.out.rcell (v:=vb) 1 1 rfl (by omega) rfl;clear hb2 hmb)
  | (go_at_call 150;(with_reducible refine (HB.out _ _ HPb3.out).mono ?_);rintro e w6 ⟨rfl,hb6⟩;have HS4:=qh (HS3.out.call hb6);clear hb6))
 go_ret
 exact ⟨rfl,HS4.out.bel⟩
theorem text_alt (a b:Ex) (h60:(Ex.alt a b).post.length ≤ 60) (ha:BrkC a) (hb:BrkC b):TextC (.alt a b):=by
 intro v w h
 have hP:=h
 rw [show (Ex.alt a b).post = (a.post ++ b.post) ++ [(5,0)] from rfl] at hP
 obtain ⟨bb,off,cap,rfl,hc1,hc2,hbl,hcell⟩:=lastP hP
 have hpl:(a.post ++ b.post).length ≤ 59:=by
  have h1:(Ex.alt a b).post.length = (a.post ++ b.post).length+1:=by simp [Ex.post];omega
  omega
 have hla:=prE_len a
 have hlb:=prE_len b
 have hba:=brk_len 1 a (prE a)
 have hbb:=brk_len 2 b (prE b)
 have hab:a.post.length+b.post.length ≤ 59:=by simpa using hpl
 have HS0:=qh ((St.start w).alloc w.heap.size rfl #[.int .i64 5,.int .i64 0] 59)
 have hop:=fun (u:World) (hu:Below w.heap.size w u) => operands2_any a b (.alt a b) 5 0 rfl pn_alt _ u h60 (h.below hu)
 obtain ⟨m,hm⟩:∃ m,m = (a.post ++ b.post).length:=⟨_,rfl⟩
 rw [← hm] at hc1 hcell hpl hop
 rw [← hm]
 obtain ⟨k1,k2⟩:=hcell w (Below.refl _ _)
 have hw1:IntKind.i64.wrap ((m:Int)+1 - 1) = (m:Int):=by rw [IntWalk.i64_in _ (by omega)];omega
 obtain ⟨A,hA⟩:∃ A,A = brk 1 a (prE a):=⟨_,rfl⟩
 obtain ⟨B,hB⟩:∃ B,B = brk 2 b (prE b):=⟨_,rfl⟩
 have hpr:prE (.alt a b) = (A ++ [124]) ++ B:=by rw [hA,hB];simp [prE]
 rw [hpr]
 have HA:=qh (fun (v:Value) (u:World) (hu:Pairs 0 u v a.post) => (show Calls Tryz.prog 150 #[v,.int .i64 1] u fun e w' => e = .returned (.string (txB A)) ∧ Below u.heap.size u w' by have:=ha 1 v u hu;rw [← hA] at this;exact this))
 have HB:=qh (fun (v:Value) (u:World) (hu:Pairs 0 u v b.post) => (show Calls Tryz.prog 150 #[v,.int .i64 2] u fun e w' => e = .returned (.string (txB B)) ∧ Below u.heap.size u w' by have:=hb 2 v u hu;rw [← hB] at this;exact this))
 rw [← hA] at hba
 rw [← hB] at hbb
 obtain ⟨add1,n1⟩:=add_tt A [124] (txB A) { data:=#[124] } rfl rfl (by simp;omega)
 obtain ⟨add2,n2⟩:=add_tt (A ++ [124]) B (txB (A ++ [124])) (txB B) rfl rfl (by simp;omega)
 obtain ⟨s1,hs1⟩:∃ s1,txB (A ++ [124]) = s1:=⟨_,rfl⟩
 obtain ⟨s2,hs2⟩:∃ s2,txB ((A ++ [124]) ++ B) = s2:=⟨_,rfl⟩
 rw [hs1] at add1 add2 n2
 rw [hs2] at add2
 rw [hs2]
 have HOP:=qh hop
 have Hhs1:=qh hs1;clear hs1
 have Hhs2:=qh hs2;clear hs2
 have HhA:=qh hA;clear hA
 have HhB:=qh hB;clear hB
 have Hhpr:=qh hpr;clear hpr
 have Hhm:=qh hm;clear hm
 have hmk:=@run_makeMap Tryz.prog
 clear h hP hcell hop ha hb hba hbb hla hlb
 go_enter Tryz.func117, Tryz.ntmps117
 go_wp2_with (first
  | (go_at_call 113;refine (binding_any 5 _ 1 rfl).mono ?_;rintro e w' ⟨rfl,rfl⟩)
  | (go_at_call 149;refine (HOP.out _ HS0.out.bel).mono ?_;rintro e w1 ⟨g,va,vb,rfl,hS,hPa,hPb⟩;have HS1:=qh (show St w w1 [Ent.box w.heap.size #[.int .i64 5,.int .i64 0] 59,Ent.row 40 1 (.slice (some ⟨g,0,none⟩) 2 2) 2 [va,vb]] from HS0.out.cat hS);have HPa:=qh hPa;have HPb:=qh hPb;have q0:=HS1.out.rcell (v:=va) 1 0 rfl (by omega) rfl;clear hS hPa hPb)
  | (go_at_call 150;(with_reducible refine (HA.out _ _ HPa.out).mono ?_);rintro e w2 ⟨rfl,hb2⟩;have HS2:=qh (HS1.out.call hb2);have HPb2:=qh (HPb.out.below hb2);have r0:=HS2.out.cell (v:=.int .i64 5) 0 0 rfl rfl;have r1:=HS2.out.cell (v:=.int .i64 0) 0 1 rfl rfl;obtain ⟨w3,w4,w5,hmm,hu1,hu2,hu3,hlk,hmb⟩:=sign5 w2;have HS3:=qh (HS2.out.call hmb);have HPb3:=qh (HPb2.out.below hmb);have r3:=HS3.out.cell (v:=.int .i64 5) 0 0 rfl rfl;have r4:=HS3.out.rcell (v:=vb) 1 1 rfl (by omega) rfl;clear hb2 hmb)
  | (go_at_call 150;(with_reducible refine (HB.out _ _ HPb3.out).mono ?_);rintro e w6 ⟨rfl,hb6⟩;have HS4:=qh (HS3.out.call hb6);clear hb6))
 go_ret
 exact ⟨rfl,HS4.out.bel⟩
theorem text_both (a b:Ex) (h60:(Ex.both a b).post.length ≤ 60) (ha:BrkC a) (hb:BrkC b):TextC (.both a b):=by
 intro v w h
 have hP:=h
 rw [show (Ex.both a b).post = (a.post ++ b.post) ++ [(6,0)] from rfl] at hP
 obtain ⟨bb,off,cap,rfl,hc1,hc2,hbl,hcell⟩:=lastP hP
 have hpl:(a.post ++ b.post).length ≤ 59:=by
  have h1:(Ex.both a b).post.length = (a.post ++ b.post).length+1:=by simp [Ex.post];omega
  omega
 have hla:=prE_len a
 have hlb:=prE_len b
 have hba:=brk_len 2 a (prE a)
 have hbb:=brk_len 3 b (prE b)
 have hab:a.post.length+b.post.length ≤ 59:=by simpa using hpl
 have HS0:=qh ((St.start w).alloc w.heap.size rfl #[.int .i64 6,.int .i64 0] 59)
 have hop:=fun (u:World) (hu:Below w.heap.size w u) => operands2_any a b (.both a b) 6 0 rfl pn_both _ u h60 (h.below hu)
 obtain ⟨m,hm⟩:∃ m,m = (a.post ++ b.post).length:=⟨_,rfl⟩
 rw [← hm] at hc1 hcell hpl hop
 rw [← hm]
 obtain ⟨k1,k2⟩:=hcell w (Below.refl _ _)
 have hw1:IntKind.i64.wrap ((m:Int)+1 - 1) = (m:Int):=by rw [IntWalk.i64_in _ (by omega)];omega
 obtain ⟨A,hA⟩:∃ A,A = brk 2 a (prE a):=⟨_,rfl⟩
 obtain ⟨B,hB⟩:∃ B,B = brk 3 b (prE b):=⟨_,rfl⟩
 have hpr:prE (.both a b) = (A ++ [38]) ++ B:=by rw [hA,hB];simp [prE]
 rw [hpr]
 have HA:=qh (fun (v:Value) (u:World) (hu:Pairs 0 u v a.post) => (show Calls Tryz.prog 150 #[v,.int .i64 2] u fun e w' => e = .returned (.string (txB A)) ∧ Below u.heap.size u w' by have:=ha 2 v u hu;rw [← hA] at this;exact this))
 have HB:=qh (fun (v:Value) (u:World) (hu:Pairs 0 u v b.post) => (show Calls Tryz.prog 150 #[v,.int .i64 3] u fun e w' => e = .returned (.string (txB B)) ∧ Below u.heap.size u w' by have:=hb 3 v u hu;rw [← hB] at this;exact this))
 rw [← hA] at hba
 rw [← hB] at hbb
 obtain ⟨add1,n1⟩:=add_tt A [38] (txB A) { data:=#[38] } rfl rfl (by simp;omega)
 obtain ⟨add2,n2⟩:=add_tt (A ++ [38]) B (txB (A ++ [38])) (txB B) rfl rfl (by simp;omega)
 obtain ⟨s1,hs1⟩:∃ s1,txB (A ++ [38]) = s1:=⟨_,rfl⟩
 obtain ⟨s2,hs2⟩:∃ s2,txB ((A ++ [38]) ++ B) = s2:=⟨_,rfl⟩
 rw [hs1] at add1 add2 n2
 rw [hs2] at add2
 rw [hs2]
 have HOP:=qh hop
 have Hhs1:=qh hs1;clear hs1
 have Hhs2:=qh hs2;clear hs2
 have HhA:=qh hA;clear hA
 have HhB:=qh hB;clear hB
 have Hhpr:=qh hpr;clear hpr
 have Hhm:=qh hm;clear hm
 have hmk:=@run_makeMap Tryz.prog
 clear h hP hcell hop ha hb hba hbb hla hlb
 go_enter Tryz.func117, Tryz.ntmps117
 go_wp2_with (first
  | (go_at_call 113;refine (binding_any 6 _ 2 rfl).mono ?_;rintro e w' ⟨rfl,rfl⟩)
  | (go_at_call 149;refine (HOP.out _ HS0.out.bel).mono ?_;rintro e w1 ⟨g,va,vb,rfl,hS,hPa,hPb⟩;have HS1:=qh (show St w w1 [Ent.box w.heap.size #[.int .i64 6,.int .i64 0] 59,Ent.row 40 1 (.slice (some ⟨g,0,none⟩) 2 2) 2 [va,vb]] from HS0.out.cat hS);have HPa:=qh hPa;have HPb:=qh hPb;have q0:=HS1.out.rcell (v:=va) 1 0 rfl (by omega) rfl;clear hS hPa hPb)
  | (go_at_call 150;(with_reducible refine (HA.out _ _ HPa.out).mono ?_);rintro e w2 ⟨rfl,hb2⟩;have HS2:=qh (HS1.out.call hb2);have HPb2:=qh (HPb.out.below hb2);have r0:=HS2.out.cell (v:=.int .i64 6) 0 0 rfl rfl;have r1:=HS2.out.cell (v:=.int .i64 0) 0 1 rfl rfl;obtain ⟨w3,w4,w5,hmm,hu1,hu2,hu3,hlk,hmb⟩:=sign6 w2;have HS3:=qh (HS2.out.call hmb);have HPb3:=qh (HPb2.out.below hmb);have r3:=HS3.out.cell (v:=.int .i64 6) 0 0 rfl rfl;have r4:=HS3.out.rcell (v:=vb) 1 1 rfl (by omega) rfl;clear hb2 hmb)
  | (go_at_call 150;(with_reducible refine (HB.out _ _ HPb3.out).mono ?_);rintro e w6 ⟨rfl,hb6⟩;have HS4:=qh (HS3.out.call hb6);clear hb6))
 go_ret
 exact ⟨rfl,HS4.out.bel⟩
theorem text_all:∀ t:Ex,t.post.length ≤ 60 → TextC t:=by
 intro t
 induction t with
 | zero => exact fun _ => text_zero
 | one => exact fun _ => text_one
 | ltr c => exact fun _ => text_ltr c
 | neg a ha => intro h;have h1:a.post.length ≤ 60:=by simp [Ex.post] at h;omega
               exact text_neg a h (brk_of a h1 (ha h1))
 | star a ha => intro h;have h1:a.post.length ≤ 60:=by simp [Ex.post] at h;omega
                exact text_star a h (brk_of a h1 (ha h1))
 | join a b ha hb => intro h;have h1:a.post.length ≤ 60 ∧ b.post.length ≤ 60:=by simp [Ex.post] at h;omega
                     exact text_join a b h (brk_of a h1.1 (ha h1.1)) (brk_of b h1.2 (hb h1.2))
 | alt a b ha hb => intro h;have h1:a.post.length ≤ 60 ∧ b.post.length ≤ 60:=by simp [Ex.post] at h;omega
                    exact text_alt a b h (brk_of a h1.1 (ha h1.1)) (brk_of b h1.2 (hb h1.2))
 | both a b ha hb => intro h;have h1:a.post.length ≤ 60 ∧ b.post.length ≤ 60:=by simp [Ex.post] at h;omega
                     exact text_both a b h (brk_of a h1.1 (ha h1.1)) (brk_of b h1.2 (hb h1.2))
theorem implExprText_any (es:List (Int × Int)) (v:Value) (w:World) (h:Pairs 0 w v es) :
  Calls Tryz.prog 74 #[v] w fun e w' => e = .returned (.string (txB (textL es))) ∧ Below w.heap.size w w':=by
 cases hok:exOk es
 ·rw [textL_no hok]
  have Hhok:=qh hok;clear hok
  go_enter Tryz.func74, Tryz.ntmps74
  go_wp2_with (go_at_call 56;refine (implExprValid_any es _ _ h _ Hhok.out).mono ?_;rintro e w1 ⟨rfl,hb⟩;have Hb:=qh hb;clear hb)
  go_ret
  exact ⟨rfl,Hb.out⟩
 ·obtain ⟨t,rfl,hl,ht⟩:=textL_ok hok
  rw [ht]
  have HT:=qh (text_all t hl)
  have Hh:=qh h
  have Hhok:=qh hok;clear hok
  have Hht:=qh ht;clear ht
  clear h
  go_enter Tryz.func74, Tryz.ntmps74
  go_wp2_with (first
   | (go_at_call 56;refine (implExprValid_any t.post _ _ Hh.out _ Hhok.out).mono ?_;rintro e w1 ⟨rfl,hb⟩;have Hb:=qh hb;clear hb)
   | (go_at_call 117;refine (HT.out _ _ (Hh.out.below Hb.out)).mono ?_;rintro e w2 ⟨rfl,hb2⟩;have Hb2:=qh hb2;clear hb2))
  go_ret
  exact ⟨rfl,Hb.out.trans (Hb2.out.mono Hb.out.size)⟩
theorem txB_inj {l m:List Nat} (hl:isT l) (hm:isT m) (h:txB l = txB m):l = m:=by
 have h1:=congrArg (fun s:ByteArray => s.data.toList) h
 simp only [txB] at h1
 have h2:∀ (l m:List Nat),isT l → isT m → l.map UInt8.ofNat = m.map UInt8.ofNat → l = m:=by
  intro l
  induction l with
  | nil =>
   intro m _ _ h
   cases m with
   | nil => rfl
   | cons => simp at h
  | cons a l ih =>
   intro m hl hm h
   cases m with
   | nil => simp at h
   | cons b m =>
    obtain ⟨hl1,ha⟩:=isT_tail hl
    obtain ⟨hm1,hb⟩:=isT_tail hm
    simp only [List.map_cons,List.cons.injEq] at h
    have h3:=congrArg UInt8.toNat h.1
    rw [UInt8.toNat_ofNat',UInt8.toNat_ofNat'] at h3
    rw [show a = b by omega,ih m hl1 hm1 h.2]
 exact h2 l m hl hm (by simpa using h1)
theorem txB_beq {l m:List Nat} (hl:isT l) (hm:isT m) (h:l ≠ m):((txB l).toList == (txB m).toList) = false:=by
 rw [beq_eq_false_iff_ne]
 intro h1
 rw [ByteArray.toList_eq,ByteArray.toList_eq] at h1
 exact h (txB_inj hl hm (ByteArray.ext (Array.ext' h1)))
theorem textL_isT (es:List (Int × Int)):isT (textL es):=fun c hc => isTb_lt ((textL_tb es).1 c hc)
def RRe (s:List Nat) (w:World) (e:Ending) (w':World):Prop:=(readL s = none ∧ e = .returned (.tuple #[.slice none 0 0,.bool false]) ∧ Below w.heap.size w w') ∨
 (∃ es a c,readL s = some es ∧ e = .returned (.tuple #[.slice a es.length c,.bool true]) ∧ St w w' [Ent.row 59 2 (.slice a es.length c) es.length (es.flatMap pairCells)])
theorem implReadExpr_any (s:List Nat) (w:World) (ht:isT s):Calls Tryz.prog 36 #[.string (txB s)] w fun e w' => RRe s w e w':=by
 have hs:=txB_size s
 by_cases hl:120 < s.length
 ·have hl2:(120:Int) < s.length:=by omega
  have hno:=readL_long hl
  have Hhno:=qh hno;clear hno
  go_enter Tryz.func36, Tryz.ntmps36
  go_wp2
  refine bodyPost_ret (v:=.tuple #[.slice none 0 0,.bool false]) (by simp [results,Tryz.results36,go_sem]) rfl ?_
  exact .inl ⟨Hhno.out,rfl,Below.refl _ _⟩
 have hl2:(s.length:Int) ≤ 120:=by omega
 have hr:=readL_by jI_all (Nat.le_refl (fuP 1 s)) (show s.length ≤ 120 by omega)
 have hS0:St w _ [Ent.box w.heap.size #[.string (txB s),.bool false] 83,Ent.nil]:=((St.start w).alloc w.heap.size rfl #[.string (txB s),.bool false] 83).add (Below.refl _ _) Ent.nil trivial (fun k hk => hk.elim)
 have hL:=(reader_all (fuP 1 s)).2.2 1 s w.heap.size w _ Ent.nil (by omega) (by omega) (Nat.le_refl _) (by omega) ht hS0
 have hm:=rd_le jI (fuP 1 s) 1 s
 obtain ⟨x,hx⟩:∃ x,rdP jI (fuP 1 s) 1 s = x:=⟨_,rfl⟩
 rw [hx] at hL hr hm
 obtain ⟨es,q,fl⟩:=x
 have HL:=qh hL
 have Hht:=qh ht
 have Hr:=qh hr
 have Hhx:=qh hx;clear hx
 clear hL hr hm hS0 hl
 cases fl with
 | true =>
  have hno:readL s = none:=by
   rw [Hr.out]
   exact if_neg (fun h => by cases h.1)
  have Hhno:=qh hno;clear hno
  go_enter Tryz.func36, Tryz.ntmps36
  go_wp2_with (go_at_call 73;refine (HL.out).mono ?_;rintro e w1 ⟨a1,c1,r1,rfl,hr1,hl1,ht1,hS1⟩;have HS1:=qh hS1;have k0:=hS1.cell (v:=.string (txB r1)) 0 0 rfl rfl;have k1:=hS1.cell (v:=.bool true) 0 1 rfl rfl;clear hS1)
  refine bodyPost_ret (v:=.tuple #[.slice none 0 0,.bool false]) (by simp [results,Tryz.results36,go_sem]) rfl ?_
  exact .inl ⟨Hhno.out,rfl,HS1.out.bel⟩
 | false =>
  cases q with
  | cons d q =>
   have hno:readL s = none:=by
    rw [Hr.out]
    exact if_neg (fun h => by cases h.2.1)
   have he:=txB_emptyR (d :: q)
   simp only [List.isEmpty_cons] at he
   have Hhno:=qh hno;clear hno
   go_enter Tryz.func36, Tryz.ntmps36
   go_wp2_with (go_at_call 73;refine (HL.out).mono ?_;rintro e w1 ⟨a1,c1,r1,rfl,hr1,hl1,ht1,hS1⟩;have hr2:=hr1 rfl;subst hr2;have HS1:=qh hS1;have k0:=hS1.cell (v:=.string (txB (d :: q))) 0 0 rfl rfl;have k1:=hS1.cell (v:=.bool false) 0 1 rfl rfl;clear hS1)
   refine bodyPost_ret (v:=.tuple #[.slice none 0 0,.bool false]) (by simp [results,Tryz.results36,go_sem]) rfl ?_
   exact .inl ⟨Hhno.out,rfl,HS1.out.bel⟩
  | nil =>
   have he:=txB_emptyR []
   simp only [List.isEmpty_nil] at he
   by_cases hq:textL es = s
   ·have hyes:readL s = some es:=by
     rw [Hr.out]
     exact if_pos ⟨rfl,rfl,hq⟩
    have HX:=qh (fun (v:Value) (u:World) (hv:Pairs 0 u v es) => by have:=implExprText_any es v u hv;rw [hq] at this;exact this)
    have Hhyes:=qh hyes;clear hyes
    clear hq
    go_enter Tryz.func36, Tryz.ntmps36
    go_wp2_with (first
     | (go_at_call 73;refine (HL.out).mono ?_;rintro e w1 ⟨a1,c1,r1,rfl,hr1,hl1,ht1,hS1⟩;have hr2:=hr1 rfl;subst hr2;have HS1:=qh hS1;have k0:=hS1.cell (v:=.string (txB [])) 0 0 rfl rfl;have k1:=hS1.cell (v:=.bool false) 0 1 rfl rfl;clear hS1)
     | (go_at_call 74;refine (HX.out _ _ (pairs_of_row (HS1.out.row 2 rfl))).mono ?_;rintro e w2 ⟨rfl,hb2⟩;have HS2:=qh (HS1.out.call hb2);clear hb2))
    refine bodyPost_ret (v:=.tuple #[.slice a1 es.length c1,.bool true]) (by simp [results,Tryz.results36,go_sem]) rfl ?_
    exact .inr ⟨es,a1,c1,Hhyes.out,rfl,HS2.out.pick [2] (by decide)⟩
   ·have hno:readL s = none:=by
     rw [Hr.out]
     exact if_neg (fun h => hq h.2.2)
    have hne:=txB_beq (textL_isT es) Hht.out hq
    have HX:=qh (fun (v:Value) (u:World) (hv:Pairs 0 u v es) => implExprText_any es v u hv)
    have Hhno:=qh hno;clear hno
    clear hq
    go_enter Tryz.func36, Tryz.ntmps36
    go_wp2_with (first
     | (go_at_call 73;refine (HL.out).mono ?_;rintro e w1 ⟨a1,c1,r1,rfl,hr1,hl1,ht1,hS1⟩;have hr2:=hr1 rfl;subst hr2;have HS1:=qh hS1;have k0:=hS1.cell (v:=.string (txB [])) 0 0 rfl rfl;have k1:=hS1.cell (v:=.bool false) 0 1 rfl rfl;clear hS1)
     | (go_at_call 74;refine (HX.out _ _ (pairs_of_row (HS1.out.row 2 rfl))).mono ?_;rintro e w2 ⟨rfl,hb2⟩;have HS2:=qh (HS1.out.call hb2);clear hb2))
    refine bodyPost_ret (v:=.tuple #[.slice none 0 0,.bool false]) (by simp [results,Tryz.results36,go_sem]) rfl ?_
    exact .inl ⟨Hhno.out,rfl,HS2.out.bel⟩
end Go.Proofs.YtfgpkadhegdffaaGreat
