/-
  The walks over the program's CheckPairs and over the function behind it.
  Conditions: the arguments read as automata and as a list of pairs; for the function behind it, the automata are valid.
-/
import Derived.Test.YtfgpkadhegdffaaGreatPk16Wpl
namespace Go.Proofs.YtfgpkadhegdffaaGreat
open Go.RowKit Go.Maps
theorem zeroBool (w:World):(zeroValue 4).run Tryz.prog w = .ok (.bool false) w:=by kernel_rfl
end Go.Proofs.YtfgpkadhegdffaaGreat
namespace Go.Proofs.YtfgpkadhegdffaaGreat
open Go.RowKit
section
variable {α:Type} [DecidableEq α] {nx:α → Nat → α} {a:α} {en:α → Bool} {K:Nat}
theorem placeOf_at {F:List α} {x:α} (h:x ∈ F) (d:α):F.getD (placeOf F x) d = x:=by
 have h1:=placeOf_lt h
 rw [getD_at h1]
 exact List.getElem_idxOf h1
theorem run_num (hK:(bat nx a K).met.length ≤ K):∀ (w:List Nat),isW w → ∀ x ∈ (bat nx a K).met,w.foldl nx x ∈ (bat nx a K).met ∧ runD (numDfa nx en (bat nx a K).met) (placeOf (bat nx a K).met x:Nat) w = (placeOf (bat nx a K).met (w.foldl nx x):Nat)
 | [],_,x,hx => ⟨hx,rfl⟩
 | c :: w,hw,x,hx => by
  have hc:c < 3:=hw c (by simp)
  have hx2:=bat_closed hK hx hc
  have h1:=placeOf_lt hx
  obtain ⟨h2,h3⟩:=run_num hK w (fun b hb => hw b (by simp [hb])) (nx x c) hx2
  refine ⟨h2,?_⟩
  unfold runD at *
  rw [List.foldl_cons,List.foldl_cons,← h3,dnx_num (a:=a) (by omega) (by omega) hc]
  unfold numNext
  rw [Int.toNat_natCast,placeOf_at hx]
theorem accD_num (hK:(bat nx a K).met.length ≤ K) {w:List Nat} (hw:isW w):accD (numDfa nx en (bat nx a K).met) w = en (w.foldl nx a):=by
 have h0:=bat_mem_first (nx:=nx) (a:=a) K
 obtain ⟨h1,h2⟩:=run_num (en:=en) hK w hw a h0
 have h3:placeOf (bat nx a K).met a = 0:=by
  have hp:=bat_pos (nx:=nx) (a:=a) K
  have hf:=bat_first (nx:=nx) (a:=a) K
  have hn:=(bat_good (nx:=nx) (a:=a) K).1
  rw [getD_at hp] at hf
  have:=List.Nodup.idxOf_getElem hn 0 hp
  rw [hf] at this
  exact this
 rw [h3] at h2
 unfold accD
 rw [show ((0:Nat):Int) = 0 from rfl] at h2
 rw [h2,den_num (placeOf_lt h1)]
 congr 1
 exact List.getElem_idxOf _
end
theorem runD_nil (d:DfaD) (s:Int):runD d s [] = s:=rfl
theorem runD_cons (d:DfaD) (s:Int) (c:Nat) (w:List Nat):runD d s (c :: w) = runD d (dnx d s c) w:=rfl
theorem isW_cons {c:Nat} {w:List Nat} (h:isW (c :: w)):c < 3 ∧ isW w:=⟨h c (by simp),fun b hb => h b (by simp [hb])⟩
theorem isW_nil:isW []:=fun c hc => by simp at hc
theorem isW_mk {c:Nat} {w:List Nat} (hc:c < 3) (h:isW w):isW (c :: w):=fun b hb => by
 rcases List.mem_cons.1 hb with rfl | hb
 ·exact hc
 ·exact h b hb
theorem fine_nx {d:DfaD} (hd:fine d) {s c:Nat} (hs:s < d.next.length) (hc:c < 3):nxD d s c < d.next.length ∧ dnx d (s:Int) c = ((nxD d s c:Nat):Int):=nxD_lt hd hs hc
theorem runD_nat {d:DfaD} (hd:fine d):∀ (w:List Nat) {s:Nat},isW w → s < d.next.length → ∃ t:Nat,t < d.next.length ∧ runD d (s:Int) w = (t:Int)
 | [],s,_,hs => ⟨s,hs,rfl⟩
 | c :: w,s,hw,hs => by
  obtain ⟨h1,h2⟩:=isW_cons hw
  obtain ⟨h3,h4⟩:=fine_nx hd hs h1
  rw [runD_cons,h4]
  exact runD_nat hd w h2 h3
theorem den_nat (d:DfaD) (s:Nat):den d (s:Int) = enD d s:=by simp [den,enD]
theorem cl_run {d:DfaD} (hd:fine d):∀ (w:List Nat) {s t:Nat},isW w → s < d.next.length → t < d.next.length → clD d s = clD d t → den d (runD d (s:Int) w) = den d (runD d (t:Int) w)
 | [],s,t,_,hs,ht,h => by
  rw [runD_nil,runD_nil,den_nat,den_nat]
  exact clEnd_ends hs ht h
 | c :: w,s,t,hw,hs,ht,h => by
  obtain ⟨h1,h2⟩:=isW_cons hw
  obtain ⟨h3,h4⟩:=fine_nx hd hs h1
  obtain ⟨h5,h6⟩:=fine_nx hd ht h1
  rw [runD_cons,runD_cons,h4,h6]
  exact cl_run hd w h2 h3 h5 (clEnd_eq (fun s c hs hc => (fine_nx hd hs hc).1) hs ht h c h1)
theorem run_clAt {d:DfaD} (hd:fine d):∀ (i:Nat) {s t:Nat},s < d.next.length → t < d.next.length → (∀ w,isW w → den d (runD d (s:Int) w) = den d (runD d (t:Int) w)) → clAt d.next.length (nxD d) (enD d) i s = clAt d.next.length (nxD d) (enD d) i t
 | 0,s,t,hs,ht,h => by
  refine (cl0_eq hs ht).2 ?_
  have:=h [] isW_nil
  rwa [runD_nil,runD_nil,den_nat,den_nat] at this
 | i+1,s,t,hs,ht,h => by
  refine (refine_eq hs ht).2 ((sameAt_iff _).2 ⟨run_clAt hd i hs ht h,fun c hc => ?_⟩)
  obtain ⟨h3,h4⟩:=fine_nx hd hs hc
  obtain ⟨h5,h6⟩:=fine_nx hd ht hc
  refine run_clAt hd i h3 h5 fun w hw => ?_
  have:=h (c :: w) (isW_mk hc hw)
  rwa [runD_cons,runD_cons,h4,h6] at this
theorem run_cl {d:DfaD} (hd:fine d) {s t:Nat} (hs:s < d.next.length) (ht:t < d.next.length) (h:∀ w,isW w → den d (runD d (s:Int) w) = den d (runD d (t:Int) w)):clD d s = clD d t:=run_clAt hd _ hs ht h
theorem clD_lt {d:DfaD} {s:Nat} (hs:s < d.next.length):clD d s < d.next.length:=by have:=(clD_le (d:=d) s hs).1;omega
theorem cl_self {d:DfaD} (hd:fine d) {s:Nat} (hs:s < d.next.length) {w:List Nat} (hw:isW w):den d (runD d ((clD d s:Nat):Int) w) = den d (runD d (s:Int) w) :=
 cl_run hd w hw (clD_lt hs) hs (clD_le s hs).2
theorem metM_facts {d:DfaD} (hf:fine d) (K:Nat):(∀ x ∈ (bat (nxM d) ((clD d 0:Nat):Int) K).met,∃ s:Nat,x = (s:Int) ∧ s < d.next.length ∧ clD d s = s) ∧ (bat (nxM d) ((clD d 0:Nat):Int) K).met.length ≤ d.next.length:=by
 have hl:1 ≤ d.next.length:=hf.1
 have h1:∀ x ∈ (bat (nxM d) ((clD d 0:Nat):Int) K).met,∃ s:Nat,x = (s:Int) ∧ s < d.next.length ∧ clD d s = s:=by
  refine bat_all (Q:=fun x => ∃ s:Nat,x = (s:Int) ∧ s < d.next.length ∧ clD d s = s) ?_ (fun x c hc hx => ?_) K
  ·exact ⟨clD d 0,rfl,clD_lt (by omega),(clD_le 0 (by omega)).2⟩
  ·obtain ⟨s,rfl,hs,-⟩:=hx
   have h2:=(nxD_lt hf hs hc).1
   exact ⟨clD d (nxD d s c),by simp [nxM],clD_lt h2,(clD_le _ h2).2⟩
 refine ⟨h1,?_⟩
 have h2:=nodup_le (bat_good (nx:=nxM d) (a:=((clD d 0:Nat):Int)) K).1 (m:=upInts d.next.length) (fun x hx => by
  obtain ⟨s,rfl,hs,-⟩:=h1 x hx
  rw [mem_upInts]
  exact hs)
 rw [upInts_len] at h2
 exact h2
theorem minD_at {d:DfaD} (hd:fine d) {K:Nat} (hK:d.next.length ≤ K):minD d = numDfa (nxM d) (den d) (bat (nxM d) ((clD d 0:Nat):Int) K).met:=by
 unfold minD
 rw [bat_done (metM_facts hd _).2 hK]
theorem fine_min {d:DfaD} (hd:fine d):fine (minD d):=fine_num (metM_facts hd _).2 hd.2.1
theorem foldl_nxM {d:DfaD} (hd:fine d):∀ (w:List Nat) {s:Nat},isW w → s < d.next.length → ∃ t:Nat,t < d.next.length ∧ w.foldl (nxM d) ((clD d s:Nat):Int) = ((clD d t:Nat):Int) ∧ runD d (s:Int) w = (t:Int)
 | [],s,_,hs => ⟨s,hs,rfl,rfl⟩
 | c :: w,s,hw,hs => by
  obtain ⟨h1,h2⟩:=isW_cons hw
  obtain ⟨h3,h4⟩:=fine_nx hd hs h1
  obtain ⟨t,ht,e1,e2⟩:=foldl_nxM hd w h2 h3
  refine ⟨t,ht,?_,by rw [runD_cons,h4];exact e2⟩
  have e3:nxM d ((clD d s:Nat):Int) c = ((clD d (nxD d s c):Nat):Int):=by
   unfold nxM
   rw [Int.toNat_natCast]
   congr 1
   exact clEnd_eq (fun s c hs hc => (fine_nx hd hs hc).1) (clD_lt hs) hs (clD_le s hs).2 c h1
  rw [List.foldl_cons,e3]
  exact e1
theorem min_acc {d:DfaD} (hd:fine d) {w:List Nat} (hw:isW w):accD (minD d) w = accD d w:=by
 unfold minD
 rw [accD_num (metM_facts hd _).2 hw]
 obtain ⟨t,ht,e1,e2⟩:=foldl_nxM hd w hw (show 0 < d.next.length from hd.1)
 rw [e1,den_nat]
 unfold accD
 rw [show (0:Int) = ((0:Nat):Int) from rfl,e2,den_nat]
 exact clEnd_ends (clD_lt ht) ht (clD_le t ht).2
theorem min_canon {x y:DfaD} (hx:fine x) (hy:fine y) (h:∀ w,isW w → accD x w = accD y w):minD x = minD y:=by
 obtain ⟨K,hK⟩:∃ K,K = x.next.length+y.next.length:=⟨_,rfl⟩
 rw [minD_at hx (show x.next.length ≤ K by omega),minD_at hy (show y.next.length ≤ K by omega)]
 have lx:0 < x.next.length:=hx.1
 have ly:0 < y.next.length:=hy.1
 let nq:Int × Int → Nat → Int × Int:=fun p c => (nxM x p.1 c,nxM y p.2 c)
 let Q:Int × Int → Prop:=fun p => ∃ s t:Nat,p = ((s:Int),(t:Int)) ∧ s < x.next.length ∧ t < y.next.length ∧ clD x s = s ∧ clD y t = t ∧ ∀ w,isW w → den x (runD x (s:Int) w) = den y (runD y (t:Int) w)
 let a:Int × Int:=(((clD x 0:Nat):Int),((clD y 0:Nat):Int))
 have h0:Q a:=⟨clD x 0,clD y 0,rfl,clD_lt lx,clD_lt ly,(clD_le 0 lx).2,(clD_le 0 ly).2,fun w hw => by
  rw [cl_self hx lx hw,cl_self hy ly hw]
  exact h w hw⟩
 have hv:∀ p c,c < 3 → Q p → Q (nq p c):=by
  rintro p c hc ⟨s,t,rfl,hs,ht,-,-,hr⟩
  obtain ⟨h3,h4⟩:=fine_nx hx hs hc
  obtain ⟨h5,h6⟩:=fine_nx hy ht hc
  refine ⟨clD x (nxD x s c),clD y (nxD y t c),by simp [nq,nxM],clD_lt h3,clD_lt h5,(clD_le _ h3).2,(clD_le _ h5).2,fun w hw => ?_⟩
  rw [cl_self hx h3 hw,cl_self hy h5 hw]
  have:=hr (c :: w) (isW_mk hc hw)
  rwa [runD_cons,runD_cons,h4,h6] at this
 have f1:∀ p q,Q p → Q q → p.1 = q.1 → p = q:=by
  rintro p q ⟨s,t,rfl,hs,ht,-,e1,r1⟩ ⟨s',t',rfl,hs',ht',-,e2,r2⟩ he
  simp only [Int.ofNat_inj] at he
  subst he
  have:=run_cl hy ht ht' fun w hw => (r1 w hw).symm.trans (r2 w hw)
  rw [e1,e2] at this
  rw [this]
 have f2:∀ p q,Q p → Q q → p.2 = q.2 → p = q:=by
  rintro p q ⟨s,t,rfl,hs,ht,e1,-,r1⟩ ⟨s',t',rfl,hs',ht',e2,-,r2⟩ he
  simp only [Int.ofNat_inj] at he
  subst he
  have:=run_cl hx hs hs' fun w hw => (r1 w hw).trans (r2 w hw).symm
  rw [e1,e2] at this
  rw [this]
 have m1:=numDfa_mapQ (nx:=nq) (nx':=nxM x) (a:=a) (f:=Prod.fst) (Q:=Q) (en:=fun p => den x p.1) (en':=den x) (K:=K) h0 hv f1 (fun _ _ _ _ => rfl) (fun _ _ => rfl)
 have m2:=numDfa_mapQ (nx:=nq) (nx':=nxM y) (a:=a) (f:=Prod.snd) (Q:=Q) (en:=fun p => den x p.1) (en':=den y) (K:=K) h0 hv f2 (fun _ _ _ _ => rfl) (fun p hp => by
  obtain ⟨s,t,rfl,-,-,-,-,r⟩:=hp
  exact (r [] isW_nil).symm)
 exact m1.trans m2.symm
theorem min_min {d:DfaD} (hd:fine d):minD (minD d) = minD d:=min_canon (fine_min hd) hd fun _ hw => min_acc hd hw
theorem min_self {d:DfaD} (hd:fine d) (ht:trimD d = d) (hr:∀ s t:Nat,s < d.next.length → t < d.next.length → (∀ w,isW w → den d (runD d (s:Int) w) = den d (runD d (t:Int) w)) → s = t):minD d = d:=by
 have hc:∀ s,s < d.next.length → clD d s = s:=fun s hs => hr _ _ (clD_lt hs) hs fun w hw => cl_self hd hs hw
 have h0:0 < d.next.length:=hd.1
 have hb:=bat_congr (nx:=dnx d) (nx':=nxM d) (a:=(0:Int)) (Q:=fun x => ∃ s:Nat,x = (s:Int) ∧ s < d.next.length) ⟨0,rfl,h0⟩ (by
  rintro x c hc ⟨s,rfl,hs⟩
  obtain ⟨h3,h4⟩:=fine_nx hd hs hc
  exact ⟨_,h4,h3⟩) (by
  rintro x c hc' ⟨s,rfl,hs⟩
  obtain ⟨h3,h4⟩:=fine_nx hd hs hc'
  unfold nxM
  rw [Int.toNat_natCast,hc _ h3,h4]) d.next.length
 refine Eq.trans ?_ ht
 unfold minD trimD
 rw [hc 0 h0,show ((0:Nat):Int) = 0 from rfl,← hb]
 unfold numDfa
 congr 1
 refine List.map_congr_left fun x hx => ?_
 unfold numRow
 refine List.map_congr_left fun c hc' => ?_
 obtain ⟨h1,-⟩:=met_facts hd d.next.length
 obtain ⟨g1,g2⟩:=h1 x hx
 obtain ⟨s,rfl⟩:=Int.eq_ofNat_of_zero_le g1
 obtain ⟨h3,h4⟩:=fine_nx hd (show s < d.next.length by omega) (List.mem_range.1 hc')
 unfold nxM
 rw [Int.toNat_natCast,hc _ h3,h4]
theorem num_residual {α:Type} [DecidableEq α] {nx:α → Nat → α} {a:α} {en:α → Bool} {K:Nat} (hK:(bat nx a K).met.length ≤ K) {i:Nat} (hi:i < (bat nx a K).met.length) {w:List Nat} (hw:isW w) :
  den (numDfa nx en (bat nx a K).met) (runD (numDfa nx en (bat nx a K).met) (i:Int) w) = en (w.foldl nx ((bat nx a K).met.getD i a)):=by
 obtain ⟨h1,h2⟩:=run_num (en:=en) hK w hw _ (memD (d:=a) hi)
 rw [idx_getD hi (bat_good K).1] at h2
 rw [h2,den_num (placeOf_lt h1)]
 congr 1
 exact List.getElem_idxOf _
theorem min_reduced {d:DfaD} (hd:fine d) {s t:Nat} (hs:s < (minD d).next.length) (ht:t < (minD d).next.length) (h:∀ w,isW w → den (minD d) (runD (minD d) (s:Int) w) = den (minD d) (runD (minD d) (t:Int) w)):s = t:=by
 have hK:=(metM_facts hd d.next.length).2
 have hin:=(metM_facts hd d.next.length).1
 have hl:(minD d).next.length = (bat (nxM d) ((clD d 0:Nat):Int) d.next.length).met.length:=numDfa_len _ _ _
 rw [hl] at hs ht
 have h1:=hin _ (memD (d:=((clD d 0:Nat):Int)) hs)
 have h2:=hin _ (memD (d:=((clD d 0:Nat):Int)) ht)
 obtain ⟨p,hp,hpl,hpc⟩:=h1
 obtain ⟨q,hq,hql,hqc⟩:=h2
 have key:p = q:=by
  rw [← hpc,← hqc]
  refine run_cl hd hpl hql fun w hw => ?_
  have h3:=h w hw
  unfold minD at h3
  rw [num_residual hK hs hw,num_residual hK ht hw,hp,hq] at h3
  have e:=fun (r:Nat) (hr:r < d.next.length) (hc:clD d r = r) => foldl_nxM hd w hw hr
  obtain ⟨u,hu,u1,u2⟩:=e p hpl hpc
  obtain ⟨v,hv,v1,v2⟩:=e q hql hqc
  rw [hpc] at u1
  rw [hqc] at v1
  rw [u1,v1,den_nat,den_nat] at h3
  rw [u2,v2,den_nat,den_nat,← clEnd_ends (clD_lt hu) hu (clD_le u hu).2,h3]
  exact clEnd_ends (clD_lt hv) hv (clD_le v hv).2
 have e1:=idx_getD hs (bat_good (nx:=nxM d) (a:=((clD d 0:Nat):Int)) d.next.length).1 ((clD d 0:Nat):Int)
 have e2:=idx_getD ht (bat_good (nx:=nxM d) (a:=((clD d 0:Nat):Int)) d.next.length).1 ((clD d 0:Nat):Int)
 rw [hp] at e1
 rw [hq,← key] at e2
 exact e1.symm.trans e2
theorem min_trim {d:DfaD} (hd:fine d):trimD (minD d) = minD d:=trim_num (metM_facts hd _).2
def Strs (B:Nat) (w:World) (v:Value) (ws:List (List Nat)):Prop:=Sl B w v ws.length 1 (wdCells ws)
theorem Strs.below {B:Nat} {w w':World} {v:Value} {ws:List (List Nat)} (h:Strs B w v ws) (he:Below w.heap.size w w'):Strs B w' v ws:=Sl.below h he
theorem Strs.form {B:Nat} {w:World} {v:Value} {ws:List (List Nat)} (h:Strs B w v ws):∃ a cap,v = .slice a ws.length cap ∧ ws.length ≤ cap ∧ cap ≤ 9223372036854775807 ∧
  (0 < ws.length → ∃ b off,a = some ⟨b,off,none⟩ ∧ b < w.heap.size ∧ ∀ j,j < ws.length → w.cell? ⟨b,off+j,none⟩ = some (.string (wdB (ws.getD j [])))):=by
 obtain ⟨hl,a,cap,hv,h1,h2,h3⟩:=h
 refine ⟨a,cap,hv,h1,h2,fun hn => ?_⟩
 obtain ⟨b,off,ha,hb,hlt,hc⟩:=h3 hn
 refine ⟨b,off,ha,hlt,fun j hj => ?_⟩
 rw [hc j (by omega)]
 simp [hj]
def okWs (ws:List (List Nat)):Prop:=∀ x ∈ ws,isW x ∧ x.length ≤ 400000
def LOk (st:List (List Nat)):Prop:=(∀ x ∈ st,isW x) ∧ ∀ i,i < st.length → (st.getD i []).length ≤ i
theorem LOk.visit {β:Type} [DecidableEq β] {key:List Nat → β} {s:List (List Nat)} (h:LOk s) {w:List Nat} (hw:isW w) (hl:w.length ≤ s.length):LOk (kvisit key s w):=by
 unfold kvisit
 split
 ·exact h
 ·refine ⟨fun x hx => ?_,fun i hi => ?_⟩
  ·rcases List.mem_append.1 hx with hx | hx
   ·exact h.1 x hx
   ·simp only [List.mem_singleton] at hx
    rw [hx]
    exact hw
  ·simp only [List.length_append,List.length_singleton] at hi
   by_cases hin:i < s.length
   ·have:=h.2 i hin
    simp only [List.getD_eq_getElem?_getD] at this ⊢
    rw [List.getElem?_append_left hin]
    exact this
   ·obtain rfl:i = s.length:=by omega
    simpa using hl
theorem LOk.row {β:Type} [DecidableEq β] {key:List Nat → β} {s:List (List Nat)} (h:LOk s) {k:Nat} (hk:k < s.length):∀ n,n ≤ 3 → LOk (krow key s (s.getD k []) n) ∧ s.length ≤ (krow key s (s.getD k []) n).length
 | 0,_ => ⟨h,Nat.le_refl _⟩
 | n+1,hn => by
  obtain ⟨h1,h2⟩:=h.row (key:=key) hk n (by omega)
  have h3:=(kvisit_pre (key:=key) (krow key s (s.getD k []) n) (s.getD k [] ++ [n])).length_le
  refine ⟨h1.visit (isW_append (h.1 _ (memD hk)) (isW_one (by omega))) ?_,Nat.le_trans h2 h3⟩
  have:=h.2 k hk
  rw [List.length_append,List.length_singleton]
  omega
theorem LOk.kat {β:Type} [DecidableEq β] {key:List Nat → β} {s:List (List Nat)} (h:LOk s):∀ k,LOk (kat key s k)
 | 0 => h
 | k+1 => by
  have ih:=LOk.kat (key:=key) h k
  by_cases hk:k < (Go.Proofs.YtfgpkadhegdffaaGreat.kat key s k).length
  ·rw [kat_succ hk]
   exact (ih.row hk 3 (by omega)).1
  ·rw [kat_stay (by omega)]
   exact ih
theorem LOk.okWs {st:List (List Nat)} (h:LOk st) (hl:st.length ≤ 1000):∀ x ∈ st,isW x ∧ x.length ≤ 399999:=fun x hx => by
 refine ⟨h.1 x hx,?_⟩
 obtain ⟨i,hi,e⟩:=List.getElem_of_mem hx
 have:=h.2 i hi
 rw [getD_at hi,e] at this
 omega
def hitD (d:DfaD) (g:DfaD):Option (List Nat):=hitP d g
theorem hitD_eq (d g:DfaD):hitD d g = hitK mostP d g:=rfl
theorem mostP_le:mostP ≤ 1600:=Nat.le_refl _
theorem hitD_says {d g:DfaD} {w:List Nat} (h:hitD d g = some w):isW w ∧ accD d w ≠ accD g w:=by
 rw [hitD_eq] at h
 exact hit_says h
theorem hitD_ok (d:DfaD):hitOk d (hitD d):=fun _ _ _ h => hitD_says h
theorem hitK_len {K:Nat} {a b:DfaD} {w:List Nat} (h:hitK K a b = some w):w.length ≤ K:=by
 have hg:=(bat_good (nx:=stepP a b) (a:=((0,0):Int × Int)) K).2.1
 obtain ⟨i,hi,hw,-⟩:=firstHit_some (d:=((0,0):Int × Int)) hg h
 rw [← hw]
 exact bat_wlen (nx:=stepP a b) (a:=((0,0):Int × Int)) K _ (memD (by omega))
theorem hitD_len {d g:DfaD} {w:List Nat} (h:hitD d g = some w):w.length ≤ 1600:=by
 rw [hitD_eq] at h
 have:=hitK_len h
 have:=mostP_le
 omega
def preW (d:DfaD):Nat → List (List Nat)
 | 0 => [[]]
 | j+1 => (tabW d (hitD d) j).1
def resW (d:DfaD) (j:Nat):List (List Nat):=(tabW d (hitD d) j).2
def staW (d:DfaD) (j:Nat):List (List Nat):=(tabW d (hitD d) j).1
def gueW (d:DfaD) (j:Nat):DfaD:=gssW d (hitD d) j
theorem nodup_take {α:Type} {l m:List α} (h:l <+: m) (hm:m.Nodup):l.Nodup:=by
 obtain ⟨t,rfl⟩:=h
 exact (List.nodup_append.1 hm).1
theorem resW_succ (d:DfaD) (j:Nat) {w:List Nat} (h:hitD d (gueW d j) = some w):resW d (j+1) = resW d j ++ [w.drop (cutW d (staW d j) (gueW d j) w+1)]:=by
 show (tabW d (hitD d) j).2 ++ _ = _
 have h':hitD d (guessW d (tabW d (hitD d) j).1 (tabW d (hitD d) j).2) = some w:=h
 simp only [h',Option.getD_some]
 rfl
structure LTab (d:DfaD) (j:Nat):Prop where
 pre:LOk (preW d j)
 nd:((preW d j).map (rowW d (resW d j))).Nodup
 re:okWs (resW d j)
 rl:(resW d j).length ≤ j+1
 inv:LInv d (staW d j) (resW d j)
 st:LOk (staW d j)
theorem LTab.at {d:DfaD} (hd:dfaOk d.next d.ends = true):∀ j,(∀ i,i < j → (hitD d (gueW d i)).isSome = true) → LTab d j
 | 0,hy => by
  have hinv:=(tab_inv hd (hitD_ok d) 0 hy).1
  have h0:LOk [[]]:=⟨fun x hx => by simp at hx;subst hx;intro c hc;simp at hc,fun i hi => by
   obtain rfl:i = 0:=by simpa using hi
   simp⟩
  exact ⟨h0,by simp [preW],fun x hx => by simp [resW,tabW] at hx;subst hx;exact ⟨fun c hc => by simp at hc,by simp⟩,by simp [resW,tabW],hinv,LOk.kat h0 _⟩
 | j+1,hy => by
  have ih:=LTab.at hd j fun i hi => hy i (by omega)
  have hinv:=(tab_inv hd (hitD_ok d) (j+1) hy).1
  obtain ⟨w,hw⟩:=Option.isSome_iff_exists.1 (hy j (by omega))
  have hr:=resW_succ d j hw
  have hww:=(hitD_says hw).1
  have hpre:preW d (j+1) <+: staW d (j+1):=kat_pre (key:=rowW d (resW d (j+1))) (s0:=preW d (j+1)) (Nat.zero_le (d.next.length+1))
  refine ⟨ih.st,?_,fun x hx => ?_,?_,hinv,LOk.kat (s:=preW d (j+1)) ih.st _⟩
  ·obtain ⟨t,ht⟩:=hpre
   have h1:=hinv.nd
   refine nodup_take (m:=(staW d (j+1)).map (rowW d (resW d (j+1)))) ⟨t.map (rowW d (resW d (j+1))),?_⟩ h1
   rw [← List.map_append,ht]
  ·rw [hr] at hx
   rcases List.mem_append.1 hx with hx | hx
   ·exact ih.re x hx
   ·simp only [List.mem_singleton] at hx
    subst hx
    refine ⟨isW_drop hww _,?_⟩
    have:=hitD_len hw
    rw [List.length_drop]
    omega
  ·rw [hr,List.length_append,List.length_singleton]
   have:=ih.rl
   omega
/-! The guesses in memory. -/
def Ent.sub (X y:Ent):Prop:=(∀ w,X.holds w → y.holds w) ∧ ∀ k,y.foot k → X.foot k
def GMem (X:Ent) (vals:List (Value × Value)) (gs:List DfaD):Prop:=vals.length = gs.length ∧ ∀ i,i < gs.length →
 ∃ a1 c1 a2 c2 vs,vals.getD i (undef,undef) = (.slice a1 (gs.getD i ⟨[],[]⟩).next.length c1,.slice a2 (gs.getD i ⟨[],[]⟩).next.length c2) ∧
  Ent.sub X (Ent.rows 67 3 (.slice a1 (gs.getD i ⟨[],[]⟩).next.length c1) vs ((gs.getD i ⟨[],[]⟩).next.map intCells)) ∧ Ent.sub X (Ent.row 4 1 (.slice a2 (gs.getD i ⟨[],[]⟩).next.length c2) (gs.getD i ⟨[],[]⟩).next.length (boolCells (gs.getD i ⟨[],[]⟩).ends))
theorem GMem.nil (X:Ent):GMem X [] []:=⟨rfl,fun i hi => absurd hi (by simp)⟩
theorem Tryz.infoDfa:(Tryz.prog.info? 25).map (fun i => (i.zero,i.size,i.bytes)) = some (some (.agg #[.slice none 0 0,.slice none 0 0]),2,48):=by kernel_rfl
theorem GMem.own {w0 w:World} {L:List Ent} (h:St w0 w L) (i:Nat) {X:Ent} (hx:L[i]? = some X) {vals:List (Value × Value)} {gs:List DfaD} (hG:GMem X vals gs) {k:Nat} (hk:k < gs.length) :
  ∃ a1 c1 a2 c2,vals.getD k (undef,undef) = (.slice a1 (gs.getD k ⟨[],[]⟩).next.length c1,.slice a2 (gs.getD k ⟨[],[]⟩).next.length c2) ∧ (gs.getD k ⟨[],[]⟩).ends.length = (gs.getD k ⟨[],[]⟩).next.length ∧
   DfaO 67 3 4 w0.heap.size w.heap.size w (.agg #[.slice a1 (gs.getD k ⟨[],[]⟩).next.length c1,.slice a2 (gs.getD k ⟨[],[]⟩).next.length c2]) (gs.getD k ⟨[],[]⟩):=by
 obtain ⟨a1,c1,a2,c2,vs,e,s1,s2⟩:=hG.2 k hk
 have hil:i < L.length:=(List.getElem?_eq_some_iff.1 hx).1
 have h1:=h.same i hx _ (s1.1 w) s1.2
 have h2:=h.same i hx _ (s2.1 w) s2.2
 have g1:=h1.intSS i (by rw [List.getElem?_set,if_pos rfl,if_pos hil])
 have g2:=h2.row i (by rw [List.getElem?_set,if_pos rfl,if_pos hil])
 have hl:(gs.getD k ⟨[],[]⟩).ends.length = (gs.getD k ⟨[],[]⟩).next.length:=by have:=g2.1;simp at this;simpa using this
 refine ⟨a1,c1,a2,c2,e,hl,_,_,rfl,g1,?_⟩
 unfold OBools
 rw [hl]
 exact own_of_row g2
def xb (b x:Bool):Bool:=b != x
def flB (b:Bool) (g:DfaD):DfaD:=⟨g.next,g.ends.map (xb b)⟩
theorem flB_run (b:Bool) (g:DfaD) (s:Int) (w:List Nat):runD (flB b g) s w = runD g s w:=rfl
theorem flB_ok {b:Bool} {g:DfaD} (h:dfaOk g.next g.ends = true):dfaOk (flB b g).next (flB b g).ends = true:=by
 have hl:=dfaOk_len h
 refine dfaOk_of hl.1 hl.2.1 ?_ fun i hi => dfaOk_row h hi
 show (g.ends.map (xb b)).length = g.next.length
 rw [List.length_map]
 exact hl.2.2
section
variable {key key':List Nat → List Bool} {f:List Bool → List Bool}
end
section
variable {b:Bool} {d M:DfaD}
end
def leafQ (p:Int × Int):DfaD:=if p.1 = 1 then noneD else if p.1 = 2 then oneD else minD ⟨[[2,2,2].set p.2.toNat 1,[2,2,2],[2,2,2]],[false,true,false]⟩
def oneQ (K:Nat) (k:Int) (a:DfaD):Option DfaD:=if k = 8 then (detQW 81 K (starN (nfaOf a))).map minD else some (flB true a)
def twoQ (K:Nat) (k:Int) (a b:DfaD):Option DfaD :=
 if k = 4 then (detQW 81 K (joinN (nfaOf a) (nfaOf b))).map minD else if k = 5 then (pairK K (fun p q => p || q) a b).map minD else (pairK K (fun p q => p && q) a b).map minD
def stepC (K:Nat) (p:Int × Int) (st:List DfaD):Option (List DfaD) :=
 if pNeeds p = 0 then some (leafQ p :: st)
 else if pNeeds p = 1 then
  match st with
  | a :: r => (oneQ K p.1 a).map (· :: r)
  | [] => none
 else
  match st with
  | b :: a :: r => (twoQ K p.1 a b).map (· :: r)
  | _ => none
def runC (K:Nat):List (Int × Int) → List DfaD → Option (List DfaD)
 | [],st => some st
 | p :: ps,st => (stepC K p st).bind (runC K ps)
theorem trim_flB {d:DfaD} (hd:fine d):trimD (flB true d) = flB true (trimD d):=by
 have hm:=(met_facts hd d.next.length).1
 unfold trimD numDfa flB
 show DfaD.mk _ _ = DfaD.mk _ _
 congr 1
 rw [List.map_map]
 refine List.map_congr_left fun x hx => ?_
 obtain ⟨h1,h2⟩:=hm x hx
 have h3:=hd.2.2.1
 have hlt:x.toNat < d.ends.length:=by omega
 simp [den,hlt]
theorem min_flB {d:DfaD} (hd:dfaOk d.next d.ends = true) (hm:minD d = d):minD (flB true d) = flB true d:=by
 have hf:=fine_of hd
 have hF:=fine_of (flB_ok (b:=true) hd)
 have ht:trimD d = d:=by
  have:=min_trim hf
  rw [hm] at this
  exact this
 refine min_self hF (by rw [trim_flB hf,ht]) fun s t hs ht' h => ?_
 have hs:s < d.next.length:=hs
 have ht':t < d.next.length:=ht'
 refine min_reduced hf (by rw [hm];exact hs) (by rw [hm];exact ht') fun w hw => ?_
 rw [hm]
 obtain ⟨a,ha,hra⟩:=runD_nat hf w hw hs
 obtain ⟨b,hb,hrb⟩:=runD_nat hf w hw ht'
 have h1:=h w hw
 rw [flB_run,flB_run,hra,hrb,den_nat,den_nat] at h1
 rw [hra,hrb,den_nat,den_nat]
 have e:∀ i,i < d.next.length → enD (flB true d) i = !enD d i:=fun i hi => by
  have h3:=(dfaOk_len hd).2.2
  have hi2:i < d.ends.length:=by omega
  simp [enD,flB,hi2,xb]
 rw [e a ha,e b hb] at h1
 simpa using h1
theorem comp_min {K:Nat} (hK:K = 40) (t:Ex) {d:DfaD} (h:compE K t = some d):minD d = d:=by
 have key:∀ {y:DfaD},dfaOk y.next y.ends = true → smallD y = d → minD d = d:=fun {y} hy e => by
  rw [← e,small_min (fine_of hy)]
  exact min_min (fine_of hy)
 cases t with
 | zero => simp only [compE,Option.some.injEq] at h;exact key noneD_ok h
 | one => simp only [compE,Option.some.injEq] at h;exact key oneD_ok h
 | ltr c => simp only [compE,Option.some.injEq] at h;exact key (ltrD_ok c) h
 | join a b =>
  simp only [compE,Option.bind_eq_some_iff,Option.map_eq_some_iff] at h
  obtain ⟨x,-,y,-,z,hz,e⟩:=h
  exact key (detM_ok hK hz) e
 | alt a b =>
  simp only [compE,Option.bind_eq_some_iff,Option.map_eq_some_iff] at h
  obtain ⟨x,-,y,-,z,hz,e⟩:=h
  exact key (pairK_ok hK hz) e
 | both a b =>
  simp only [compE,Option.bind_eq_some_iff,Option.map_eq_some_iff] at h
  obtain ⟨x,-,y,-,z,hz,e⟩:=h
  exact key (pairK_ok hK hz) e
 | neg a =>
  simp only [compE,Option.map_eq_some_iff] at h
  obtain ⟨x,hx,e⟩:=h
  exact key (negD_ok (compE_ok hK a hx)) e
 | star a =>
  simp only [compE,Option.bind_eq_some_iff,Option.map_eq_some_iff] at h
  obtain ⟨x,-,z,hz,e⟩:=h
  exact key (detM_ok hK hz) e
theorem map_small {o:Option DfaD} (h:∀ d,o = some d → dfaOk d.next d.ends = true):o.map smallD = o.map minD:=by
 cases o with
 | none => rfl
 | some d => exact congrArg some (small_min (fine_of (h d rfl)))
theorem neg_flB (d:DfaD):negD d = flB true d:=by
 unfold negD flB
 congr 1
 exact List.map_congr_left fun x _ => by cases x <;> rfl
theorem leaf_none:smallD noneD = noneD:=by decide +kernel
theorem leaf_one:smallD oneD = oneD:=by decide +kernel
theorem runC_post {K:Nat} (hK:K = 40):∀ (t:Ex) (rest:List (Int × Int)) (st:List DfaD),runC K (t.post ++ rest) st = (compE K t).bind fun d => runC K rest (d :: st):=by
 intro t
 induction t with
 | zero =>
  intro rest st
  show (some (noneD :: st)).bind (runC K rest) = _
  simp only [compE,leaf_none]
  rfl
 | one =>
  intro rest st
  show (some (oneD :: st)).bind (runC K rest) = _
  simp only [compE,leaf_one]
  rfl
 | ltr c =>
  intro rest st
  have e:stepC K (3,(c.val:Int)) st = some (leafQ (3,(c.val:Int)) :: st):=by unfold stepC;rw [if_pos (pn_leaf3 c)]
  show (stepC K (3,(c.val:Int)) st).bind (runC K rest) = _
  rw [e]
  simp only [compE]
  rw [small_min (fine_of (ltrD_ok c))]
  rfl
 | join a b ha hb =>
  intro rest st
  show runC K ((a.post ++ b.post ++ [(4,0)]) ++ rest) st = _
  rw [List.append_assoc,List.append_assoc,ha]
  simp only [compE]
  cases hx:compE K a with
  | none => rfl
  | some x =>
   show runC K (b.post ++ ([(4,0)] ++ rest)) (x :: st) = _
   rw [hb]
   show _ = ((compE K b).bind fun y => (detM 81 K (wJoin x y)).map smallD).bind _
   cases hy:compE K b with
   | none => rfl
   | some y =>
    show ((twoQ K 4 x y).map (· :: st)).bind (runC K rest) = ((detM 81 K (wJoin x y)).map smallD).bind _
    rw [show twoQ K 4 x y = (detM 81 K (wJoin x y)).map smallD by
     rw [map_small fun d hd => detM_ok hK hd,← det_same,← join_same]
     rfl]
    cases (detM 81 K (wJoin x y)).map smallD <;> rfl
 | alt a b ha hb =>
  intro rest st
  show runC K ((a.post ++ b.post ++ [(5,0)]) ++ rest) st = _
  rw [List.append_assoc,List.append_assoc,ha]
  simp only [compE]
  cases hx:compE K a with
  | none => rfl
  | some x =>
   show runC K (b.post ++ ([(5,0)] ++ rest)) (x :: st) = _
   rw [hb]
   show _ = ((compE K b).bind fun y => (pairK K (fun p q => p || q) x y).map smallD).bind _
   cases hy:compE K b with
   | none => rfl
   | some y =>
    show ((twoQ K 5 x y).map (· :: st)).bind (runC K rest) = ((pairK K (fun p q => p || q) x y).map smallD).bind _
    rw [show twoQ K 5 x y = (pairK K (fun p q => p || q) x y).map smallD by
     rw [map_small fun d hd => pairK_ok hK hd]
     rfl]
    cases (pairK K (fun p q => p || q) x y).map smallD <;> rfl
 | both a b ha hb =>
  intro rest st
  show runC K ((a.post ++ b.post ++ [(6,0)]) ++ rest) st = _
  rw [List.append_assoc,List.append_assoc,ha]
  simp only [compE]
  cases hx:compE K a with
  | none => rfl
  | some x =>
   show runC K (b.post ++ ([(6,0)] ++ rest)) (x :: st) = _
   rw [hb]
   show _ = ((compE K b).bind fun y => (pairK K (fun p q => p && q) x y).map smallD).bind _
   cases hy:compE K b with
   | none => rfl
   | some y =>
    show ((twoQ K 6 x y).map (· :: st)).bind (runC K rest) = ((pairK K (fun p q => p && q) x y).map smallD).bind _
    rw [show twoQ K 6 x y = (pairK K (fun p q => p && q) x y).map smallD by
     rw [map_small fun d hd => pairK_ok hK hd]
     rfl]
    cases (pairK K (fun p q => p && q) x y).map smallD <;> rfl
 | neg a ha =>
  intro rest st
  show runC K ((a.post ++ [(7,0)]) ++ rest) st = _
  rw [List.append_assoc,ha]
  simp only [compE]
  cases hx:compE K a with
  | none => rfl
  | some x =>
   have hok:=compE_ok hK a hx
   show runC K rest (flB true x :: st) = runC K rest (smallD (negD x) :: st)
   rw [small_min (fine_of (negD_ok hok)),neg_flB,min_flB hok (comp_min hK a hx)]
 | star a ha =>
  intro rest st
  show runC K ((a.post ++ [(8,0)]) ++ rest) st = _
  rw [List.append_assoc,ha]
  simp only [compE]
  cases hx:compE K a with
  | none => rfl
  | some x =>
   show ((oneQ K 8 x).map (· :: st)).bind (runC K rest) = ((detM 81 K (wStar x)).map smallD).bind _
   rw [show oneQ K 8 x = (detM 81 K (wStar x)).map smallD by
    rw [map_small fun d hd => detM_ok hK hd,← det_same,← star_same]
    rfl]
   cases (detM 81 K (wStar x)).map smallD <;> rfl
theorem runC_whole {K:Nat} (hK:K = 40) (t:Ex):runC K t.post [] = (compE K t).map fun d => [d]:=by
 have h:=runC_post hK t [] []
 rw [List.append_nil] at h
 rw [h]
 cases compE K t <;> rfl
theorem leafQ_ok {p:Int × Int} (h:pOk p = true) (hn:pNeeds p = 0):dfaOk (leafQ p).next (leafQ p).ends = true:=by
 unfold leafQ
 split
 ·exact noneD_ok
 ·split
  ·exact oneD_ok
  ·rename_i h1 h2
   have h3:p.1 = 3 ∧ 0 ≤ p.2 ∧ p.2 ≤ 2:=by
    unfold pNeeds at hn
    rw [if_pos h] at hn
    simp only [pOk,inB,Bool.and_eq_true,Bool.or_eq_true,decide_eq_true_eq,Bool.not_eq_true',decide_eq_false_iff_not] at h
    split at hn
    ·omega
    ·split at hn <;> omega
   obtain ⟨c,hc⟩:∃ c:Fin 3,p.2.toNat = c.val:=⟨⟨p.2.toNat,by omega⟩,rfl⟩
   rw [hc]
   have:=small_ok (ltrD_ok c)
   rw [small_min (fine_of (ltrD_ok c))] at this
   exact this
theorem min_ok {d:DfaD} (h:dfaOk d.next d.ends = true):dfaOk (minD d).next (minD d).ends = true:=by
 rw [← small_min (fine_of h)]
 exact small_ok h
end Go.Proofs.YtfgpkadhegdffaaGreat
