/-
  The walk over the program's operands, by the tree of the expression.
  Conditions: the expression reads as such, it has at most 60 parts.
-/
import Derived.Test.YtfgpkadhegdffaaGreatPk37Opp
set_option maxHeartbeats 8000000
set_option maxRecDepth 100000
namespace Go.Proofs.YtfgpkadhegdffaaGreat
open Go.RowKit
theorem lastP {w:World} {v:Value} {pre:List (Int × Int)} {p:Int × Int} (h:Pairs 0 w v (pre ++ [p])):∃ b off cap,v = .slice (some ⟨b,off,none⟩) (pre.length+1) cap ∧ pre.length+1 ≤ cap ∧ cap ≤ 9223372036854775807 ∧ b < w.heap.size ∧
  ∀ u,Below w.heap.size w u → u.cell? ⟨b,off+pre.length * 2,none⟩ = some (.int .i64 p.1) ∧ u.cell? ⟨b,off+pre.length * 2+1,none⟩ = some (.int .i64 p.2):=by
 obtain ⟨a,cap,hv,h1,h2,h3⟩:=h.form
 obtain ⟨b,off,rfl,-,hb,hc⟩:=h3 (by simp)
 have hl:(pre ++ [p]).length = pre.length+1:=by simp
 rw [hl] at hv h1
 obtain ⟨c1,c2⟩:=hc pre.length (by simp)
 have e:(pre ++ [p]).getD pre.length (0,0) = p:=getD_mid
 rw [e] at c1 c2
 exact ⟨b,off,cap,hv,h1,h2,hb,fun u hu => ⟨(bcell hu b _ hb).trans c1,(bcell hu b _ hb).trans c2⟩⟩
theorem st_of {es:List (Int × Int)} {w:World} {e:Ending} {w':World} (hok:exOk es = true) (h:RSt es es.length w e w'):∃ g b,e = .returned (.tuple #[.slice (some ⟨g,0,none⟩) es.length es.length,.bool b]) ∧ St w w' [Ent.row 3 1 (.slice (some ⟨g,0,none⟩) es.length es.length) es.length (intCells (clsL es.length (begB es)))]:=by
 rcases h with ⟨-,g,b,he,-,hS⟩ | ⟨hbad,-⟩
 ·exact ⟨g,b,he,hS⟩
 ·exact absurd (exOk_iff.1 hok).1 hbad
theorem operands2w_any (a b t:Ex) (k l:Int) (ht:t.post = a.post ++ b.post ++ [(k,l)]) (hk:pNeeds (k,l) = 2) (v:Value) (w:World) (h60:t.post.length ≤ 60) (h:Pairs 0 w v t.post) :
  Calls Tryz.prog 149 #[v] w fun e w' => ∃ g va vb,e = .returned (.slice (some ⟨g,0,none⟩) 2 2) ∧ St w w' [Ent.row 40 1 (.slice (some ⟨g,0,none⟩) 2 2) 2 [va,vb]] ∧ Pairs 0 w va a.post ∧ Pairs 0 w vb b.post:=by
 have hok:=post_exOk t h60
 have hst:=qh (implStarts_any t.post v w (by omega) h)
 have hbt:=beg_two a b (k,l)
 rw [← ht] at hbt
 have hP:=h
 rw [ht] at hP
 obtain ⟨bb,off,cap,rfl,hc1,hc2,hb,hcell⟩:=lastP hP
 have hpl:(a.post ++ b.post).length = a.post.length+b.post.length:=by simp
 have hal:=post_pos a
 have hbl:=post_pos b
 have htl:t.post.length = a.post.length+b.post.length+1:=by rw [ht];simp;omega
 rw [hpl] at hc1 hcell hst hP ⊢
 have hPa:=hP.take (n:=a.post.length) (by simp)
 have hPd:=hP.drop (n:=a.post.length) (by simp)
 have e1:(a.post ++ b.post ++ [(k,l)]).take a.post.length = a.post:=by rw [List.append_assoc,List.take_left]
 have e2:(a.post ++ b.post ++ [(k,l)]).drop a.post.length = b.post ++ [(k,l)]:=by rw [List.append_assoc,List.drop_left]
 rw [e1] at hPa
 rw [e2] at hPd
 have hPb:=hPd.take (n:=b.post.length) (by simp)
 rw [List.take_left] at hPb
 obtain ⟨A,hA⟩:∃ A,A = a.post.length:=⟨_,rfl⟩
 obtain ⟨B,hB⟩:∃ B,B = b.post.length:=⟨_,rfl⟩
 obtain ⟨m,hm⟩:∃ m,m = A+B:=⟨_,rfl⟩
 rw [← hA,← hB,← hm] at htl hc1 hcell hst hbt
 rw [← hA,← hB] at hPb
 rw [← hA] at hPa hal
 rw [← hB] at hbl
 rw [← hA,← hB,← hm]
 have hst2:=hst
 have Hcell:=qh hcell
 have HPa:=qh hPa
 have HPb:=qh hPb
 have hw1:IntKind.i64.wrap ((m:Int)+1 - 1) = (m:Int):=by rw [IntWalk.i64_in _ (by omega)];omega
 have hw2:IntKind.i64.wrap ((m:Int) - 1) = ((m - 1:Nat):Int):=by rw [IntWalk.i64_in _ (by omega)];omega
 have hm1:m - 1 < m+1:=by omega
 have hm2:((m - 1:Nat):Int) < (m:Int)+1:=by omega
 have hbeg:(intCells (clsL (m+1) (begB t.post)))[m - 1]? = some (.int .i64 (A:Int)):=by
  rw [clsL_cell _ (by omega),hbt]
 have Hbeg:=qh hbeg
 have hmA:A+1 ≤ m:=by omega
 have hmI:(A:Int) ≤ (m:Int):=by omega
 have Hhm:=qh hm;clear hm
 have Hhk:=qh hk;clear hk
 have Hhpl:=qh hpl;clear hpl
 have Hhok:=qh hok;clear hok
 have Hhbt:=qh hbt;clear hbt
 have Hhtl:=qh htl;clear htl
 have HhA:=qh hA;clear hA
 have HhB:=qh hB;clear hB
 have Hht:=qh ht;clear ht
 clear hP hPd hPa hPb hcell e1 e2 h hst2 hbeg
 go_enter Tryz.func149, Tryz.ntmps149
 go_wp2_with (go_at_call 95;refine (hst.out).mono ?_;rintro e w1 hR;have h9:=st_of Hhok.out hR;rw [Hhtl.out] at h9;obtain ⟨g,bx,rfl,hS⟩:=h9;have k4:=hS.rcell (v:=.int .i64 (A:Int)) 0 (m - 1) rfl (by omega) Hbeg.out;have HS:=qh hS;obtain ⟨k2,k3⟩:=Hcell.out _ hS.bel;clear hR hS)
 refine (implNeeds_any k l _ 2 Hhk.out (by omega)).mono ?_
 rintro e w2 ⟨rfl,hb2⟩
 have HS2:=qh (HS.out.call hb2)
 have k5:=HS2.out.rcell (v:=.int .i64 (A:Int)) 0 (m - 1) rfl (by omega) Hbeg.out
 have hne:(cap = A) = False:=by simp;omega
 have hBm:B = m - A:=by have:=Hhm.out;omega
 have hPb:=HPb.out
 rw [hBm] at hPb
 have HPb2:=qh hPb
 have HhBm:=qh hBm;clear hBm
 clear k2 k3 k4 hb2 hPb
 go_wp2
 go_region
 go_wp2
 have hS3:=(HS2.out.alloc w2.heap.size rfl #[.slice (some ⟨bb,off,none⟩) A cap,.slice (some ⟨bb,off+A * 2,none⟩) (m - A) (cap - A)] 40).boxrow 1 2 1 [.slice (some ⟨bb,off,none⟩) A cap,.slice (some ⟨bb,off+A * 2,none⟩) (m - A) (cap - A)] rfl rfl (by unfold maxLen;omega)
 go_ret
 exact ⟨_,_,_,rfl,hS3.drew.pick [1] (by decide),HPa.out,HPb2.out⟩
theorem operands1w_any (a t:Ex) (k l:Int) (ht:t.post = a.post ++ [(k,l)]) (hk:pNeeds (k,l) = 1) (v:Value) (w:World) (h60:t.post.length ≤ 60) (h:Pairs 0 w v t.post) :
  Calls Tryz.prog 149 #[v] w fun e w' => ∃ g va,e = .returned (.slice (some ⟨g,0,none⟩) 1 1) ∧ St w w' [Ent.row 40 1 (.slice (some ⟨g,0,none⟩) 1 1) 1 [va]] ∧ Pairs 0 w va a.post:=by
 have hok:=post_exOk t h60
 have hst:=qh (implStarts_any t.post v w (by omega) h)
 have hP:=h
 rw [ht] at hP
 obtain ⟨bb,off,cap,rfl,hc1,hc2,hb,hcell⟩:=lastP hP
 have hal:=post_pos a
 have htl:t.post.length = a.post.length+1:=by rw [ht];simp
 have hPa:=hP.take (n:=a.post.length) (by simp)
 rw [List.take_left] at hPa
 obtain ⟨m,hm⟩:∃ m,m = a.post.length:=⟨_,rfl⟩
 rw [← hm] at htl hc1 hcell hst hPa hal
 rw [← hm]
 have Hcell:=qh hcell
 have HPa:=qh hPa
 have hw1:IntKind.i64.wrap ((m:Int)+1 - 1) = (m:Int):=by rw [IntWalk.i64_in _ (by omega)];omega
 have Hhk:=qh hk;clear hk
 have Hhok:=qh hok;clear hok
 have Hhtl:=qh htl;clear htl
 have Hhm:=qh hm;clear hm
 have Hht:=qh ht;clear ht
 clear hP hPa hcell h
 go_enter Tryz.func149, Tryz.ntmps149
 go_wp2_with (go_at_call 95;refine (hst.out).mono ?_;rintro e w1 hR;have h9:=st_of Hhok.out hR;rw [Hhtl.out] at h9;obtain ⟨g,bx,rfl,hS⟩:=h9;have HS:=qh hS;obtain ⟨k2,k3⟩:=Hcell.out _ hS.bel;clear hR hS)
 refine (implNeeds_any k l _ 1 Hhk.out (by omega)).mono ?_
 rintro e w2 ⟨rfl,hb2⟩
 have HS2:=qh (HS.out.call hb2)
 have hS3:=(HS2.out.alloc w2.heap.size rfl #[.slice (some ⟨bb,off,none⟩) m cap] 40).boxrow 1 1 1 [.slice (some ⟨bb,off,none⟩) m cap] rfl rfl (by unfold maxLen;omega)
 have HS3:=qh hS3
 clear k2 k3 hb2 hS3
 go_wp2
 go_ret
 exact ⟨_,_,rfl,HS3.out.pick [1] (by decide),HPa.out⟩
theorem operands2_any (a b t:Ex) (k l:Int) (ht:t.post = a.post ++ b.post ++ [(k,l)]) (hk:pNeeds (k,l) = 2) (v:Value) (w:World) (h60:t.post.length ≤ 60) (h:Pairs 0 w v t.post) :
  Calls Tryz.prog 149 #[v] w fun e w' => ∃ g va vb,e = .returned (.slice (some ⟨g,0,none⟩) 2 2) ∧ St w w' [Ent.row 40 1 (.slice (some ⟨g,0,none⟩) 2 2) 2 [va,vb]] ∧ Pairs 0 w' va a.post ∧ Pairs 0 w' vb b.post :=
 (operands2w_any a b t k l ht hk v w h60 h).mono fun _ _ ⟨g,va,vb,he,hS,h1,h2⟩ => ⟨g,va,vb,he,hS,h1.below hS.bel,h2.below hS.bel⟩
theorem operands1_any (a t:Ex) (k l:Int) (ht:t.post = a.post ++ [(k,l)]) (hk:pNeeds (k,l) = 1) (v:Value) (w:World) (h60:t.post.length ≤ 60) (h:Pairs 0 w v t.post) :
  Calls Tryz.prog 149 #[v] w fun e w' => ∃ g va,e = .returned (.slice (some ⟨g,0,none⟩) 1 1) ∧ St w w' [Ent.row 40 1 (.slice (some ⟨g,0,none⟩) 1 1) 1 [va]] ∧ Pairs 0 w' va a.post :=
 (operands1w_any a t k l ht hk v w h60 h).mono fun _ _ ⟨g,va,he,hS,h1⟩ => ⟨g,va,he,hS,h1.below hS.bel⟩
end Go.Proofs.YtfgpkadhegdffaaGreat
