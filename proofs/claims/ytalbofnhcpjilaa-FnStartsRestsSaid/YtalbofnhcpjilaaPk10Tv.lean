/-
  The smallest automaton, plain: classes of an automaton and of its reachable part agree; both ways of making it small are the same.
  No condition: this text speaks of no program.
-/
import Derived.Test.YtalbofnhcpjilaaPk09Mi
namespace Go.Proofs.Ytalbofnhcpjilaa
open Go.RowKit
theorem clAt_sim {n m : Nat} {nx nx' : Nat → Nat → Nat} {en en' : Nat → Bool} (φ : Nat → Nat) (hφ : ∀ i, i < m → φ i < n) (hst : ∀ i c, i < m → c < 3 → nx' i c < m ∧ φ (nx' i c) = nx (φ i) c) (hen : ∀ i, i < m → en' i = en (φ i)) :
  ∀ (r : Nat) {i j : Nat}, i < m → j < m → (clAt m nx' en' r i = clAt m nx' en' r j ↔ clAt n nx en r (φ i) = clAt n nx en r (φ j))
 | 0, i, j, hi, hj => by
  rw [cl0_eq hi hj, cl0_eq (hφ i hi) (hφ j hj), hen i hi, hen j hj]
 | r + 1, i, j, hi, hj => by
  have ih := fun {i j : Nat} (hi : i < m) (hj : j < m) => clAt_sim φ hφ hst hen r hi hj
  show refineC m nx' (clAt m nx' en' r) i = refineC m nx' (clAt m nx' en' r) j ↔ refineC n nx (clAt n nx en r) (φ i) = refineC n nx (clAt n nx en r) (φ j)
  rw [refine_eq hi hj, refine_eq (hφ i hi) (hφ j hj), sameAt_iff, sameAt_iff, ih hi hj]
  constructor
  ·rintro ⟨h1, h2⟩
   refine ⟨h1, fun c hc => ?_⟩
   have h := (ih (hst i c hi hc).1 (hst j c hj hc).1).1 (h2 c hc)
   rwa [(hst i c hi hc).2, (hst j c hj hc).2] at h
  ·rintro ⟨h1, h2⟩
   refine ⟨h1, fun c hc => (ih (hst i c hi hc).1 (hst j c hj hc).1).2 ?_⟩
   rw [(hst i c hi hc).2, (hst j c hj hc).2]
   exact h2 c hc
theorem clEnd_sim {n m : Nat} {nx nx' : Nat → Nat → Nat} {en en' : Nat → Bool} (φ : Nat → Nat) (hmn : m ≤ n) (hφ : ∀ i, i < m → φ i < n) (hst : ∀ i c, i < m → c < 3 → nx' i c < m ∧ φ (nx' i c) = nx (φ i) c) (hen : ∀ i, i < m → en' i = en (φ i)) {i j : Nat} (hi : i < m) (hj : j < m) :
  clEnd m nx' en' i = clEnd m nx' en' j ↔ clEnd n nx en (φ i) = clEnd n nx en (φ j) := by
 have hin : ∀ s c, s < m → c < 3 → nx' s c < m := fun s c hs hc => (hst s c hs hc).1
 have hs := clEnd_stays hin en'
 have e1 := stays_all hin hs n hmn i hi
 have e2 := stays_all hin hs n hmn j hj
 show clAt m nx' en' m i = clAt m nx' en' m j ↔ _
 rw [← e1, ← e2]
 exact clAt_sim φ hφ hst hen n hi hj
def clD (d : DfaD) (s : Nat) : Nat := clEnd d.next.length (nxD d) (enD d) s
def nxM (d : DfaD) (s : Int) (c : Nat) : Int := (clD d (nxD d s.toNat c) : Nat)
def minD (d : DfaD) : DfaD := numDfa (nxM d) (den d) (bat (nxM d) ((clD d 0 : Nat) : Int) d.next.length).met
def foldD (x : DfaD) : DfaD := ⟨(List.range x.next.length).map fun k => (List.range 3).map fun c => ((clD x (nxD x k c) : Nat) : Int), x.ends⟩
def smallD (d : DfaD) : DfaD := trimD (foldD (trimD d))
theorem clD_le {d : DfaD} (s : Nat) (hs : s < d.next.length) : clD d s ≤ s ∧ clD d (clD d s) = clD d s := by
 have h := clAt_good (n := d.next.length) (nx := nxD d) (enD d) d.next.length
 exact ⟨h.le s hs, h.id s hs⟩
def phiD (d : DfaD) (i : Nat) : Nat := ((bat (dnx d) 0 d.next.length).met.getD i 0).toNat
theorem trim_facts {d : DfaD} (hd : fine d) : fine (trimD d) ∧ (trimD d).next.length ≤ d.next.length ∧ (∀ i, i < (trimD d).next.length → phiD d i < d.next.length) ∧
  (∀ i c, i < (trimD d).next.length → c < 3 → nxD (trimD d) i c < (trimD d).next.length ∧ phiD d (nxD (trimD d) i c) = nxD d (phiD d i) c) ∧ (∀ i, i < (trimD d).next.length → enD (trimD d) i = enD d (phiD d i)) ∧ phiD d 0 = 0 := by
 obtain ⟨h1, h2⟩ := met_facts hd d.next.length
 have hf := fine_num (nx := dnx d) (a := (0 : Int)) (en := den d) h2 (by have := hd.2.1; omega)
 have hl : (trimD d).next.length = (bat (dnx d) 0 d.next.length).met.length := numDfa_len _ _ _
 have hphi : ∀ i, i < (bat (dnx d) 0 d.next.length).met.length → (bat (dnx d) 0 d.next.length).met.getD i 0 = ((phiD d i : Nat) : Int) ∧ phiD d i < d.next.length := fun i hi => by
  obtain ⟨a, b⟩ := h1 _ (memD (d := 0) hi)
  unfold phiD
  omega
 refine ⟨hf, by rw [hl]; exact h2, fun i hi => (hphi i (by rw [← hl]; exact hi)).2, fun i c hi hc => ?_, fun i hi => ?_, ?_⟩
 ·have hi' : i < (bat (dnx d) 0 d.next.length).met.length := by rw [← hl]; exact hi
  refine ⟨(nxD_lt hf hi hc).1, ?_⟩
  obtain ⟨p1, p2⟩ := hphi i hi'
  have hn : nxD (trimD d) i c = placeOf (bat (dnx d) 0 d.next.length).met (dnx d ((bat (dnx d) 0 d.next.length).met.getD i 0) c) := by
   unfold nxD trimD
   rw [numDfa_row (a := (0 : Int)) hi', numRow_at hc, Int.toNat_natCast]
  have hm := bat_closed (nx := dnx d) (a := (0 : Int)) h2 (memD (d := 0) hi') hc
  rw [hn]
  unfold phiD
  rw [getD_idx hm, p1, (nxD_lt hd p2 hc).2, Int.toNat_natCast]
  rfl
 ·have hi' : i < (bat (dnx d) 0 d.next.length).met.length := by rw [← hl]; exact hi
  unfold enD trimD phiD
  simp [numDfa, hi', den]
 ·unfold phiD
  rw [bat_first]
  rfl
theorem fold_facts {x : DfaD} (hx : fine x) : fine (foldD x) ∧ (foldD x).next.length = x.next.length ∧ ∀ k c, k < x.next.length → c < 3 → dnx (foldD x) (k : Int) c = ((clD x (nxD x k c) : Nat) : Int) := by
 have hl : (foldD x).next.length = x.next.length := by simp [foldD]
 have hr : ∀ k, k < x.next.length → (foldD x).next.getD k [] = (List.range 3).map fun c => ((clD x (nxD x k c) : Nat) : Int) := fun k hk => by simp [foldD, hk]
 have hc : ∀ k c, k < x.next.length → c < 3 → ((foldD x).next.getD k []).getD c 0 = ((clD x (nxD x k c) : Nat) : Int) := fun k c hk hc => by rw [hr k hk]; simp [hc]
 refine ⟨⟨by rw [hl]; exact hx.1, by rw [hl]; exact hx.2.1, by rw [hl]; exact hx.2.2.1, fun i hi => ?_⟩, hl, fun k c hk h3 => ?_⟩
 ·rw [hl] at hi
  refine ⟨by rw [hr i hi]; simp, fun c h3 => ?_⟩
  rw [hc i c hi h3, hl]
  have h1 := (nxD_lt hx hi h3).1
  have h2 := (clD_le (nxD x i c) h1).1
  omega
 ·unfold dnx
  rw [Int.toNat_natCast]
  exact hc k c hk h3
theorem small_min {d : DfaD} (hd : fine d) : smallD d = minD d := by
 obtain ⟨hx, hmn, hφ, hst, hen, hφ0⟩ := trim_facts hd
 obtain ⟨x, hxe⟩ : ∃ x, x = trimD d := ⟨_, rfl⟩
 unfold smallD
 rw [← hxe] at hx hmn hφ hst hen ⊢
 obtain ⟨hff, hfl, hfn⟩ := fold_facts hx
 have hm0 : 0 < x.next.length := hx.1
 have hsim := fun {i j : Nat} (hi : i < x.next.length) (hj : j < x.next.length) => clEnd_sim (n := d.next.length) (m := x.next.length) (nx := nxD d) (nx' := nxD x) (en := enD d) (en' := enD x) (phiD d) hmn hφ hst hen hi hj
 have hdin : ∀ s c, s < d.next.length → c < 3 → nxD d s c < d.next.length := fun s c hs hc => (nxD_lt hd hs hc).1
 have hmet := (met_facts hff x.next.length).2
 rw [hfl] at hmet
 have hbat : bat (dnx (foldD x)) 0 d.next.length = bat (dnx (foldD x)) 0 x.next.length := bat_done hmet hmn
 have key := numDfa_mapQ (nx := dnx (foldD x)) (nx' := nxM d) (a := (0 : Int)) (f := fun j : Int => ((clD d (phiD d j.toNat) : Nat) : Int)) (Q := fun j => ∃ k : Nat, j = (k : Int) ∧ k < x.next.length ∧ clD x k = k) (en := den (foldD x)) (en' := den d) (K := d.next.length)
  ⟨0, rfl, hm0, Nat.le_zero.1 (clD_le 0 hm0).1⟩ ?_ ?_ ?_ ?_
 ·unfold trimD minD
  rw [hfl, ← hbat, ← key]
  have e : ((clD d (phiD d (0 : Int).toNat) : Nat) : Int) = ((clD d 0 : Nat) : Int) := by
   show ((clD d (phiD d 0) : Nat) : Int) = _
   rw [hφ0]
  simp only [e]
 ·rintro j c hc ⟨k, rfl, hk, -⟩
  rw [hfn k c hk hc]
  have h1 := (nxD_lt hx hk hc).1
  obtain ⟨h2, h3⟩ := clD_le (nxD x k c) h1
  exact ⟨_, rfl, by omega, h3⟩
 ·rintro j j' ⟨k, rfl, hk, hr⟩ ⟨k', rfl, hk', hr'⟩ h
  simp only [Int.toNat_natCast] at h
  have h1 : clD d (phiD d k) = clD d (phiD d k') := by omega
  have h2 : clD x k = clD x k' := (hsim hk hk').2 h1
  rw [hr, hr'] at h2
  rw [h2]
 ·rintro j c hc ⟨k, rfl, hk, -⟩
  rw [hfn k c hk hc]
  obtain ⟨h1, -⟩ := nxD_lt hx hk hc
  obtain ⟨h2, h3⟩ := clD_le (nxD x k c) h1
  simp only [Int.toNat_natCast, nxM]
  have a1 : clD d (phiD d (clD x (nxD x k c))) = clD d (phiD d (nxD x k c)) := (hsim (by omega) h1).1 h3
  rw [a1, (hst k c hk hc).2]
  obtain ⟨h4, h5⟩ := clD_le (phiD d k) (hφ k hk)
  have a2 : clD d (nxD d (clD d (phiD d k)) c) = clD d (nxD d (phiD d k) c) := clEnd_eq hdin (en := enD d) (s := clD d (phiD d k)) (t := phiD d k) (by have := hφ k hk; omega) (hφ k hk) h5 c hc
  rw [a2]
 ·rintro j ⟨k, rfl, hk, -⟩
  obtain ⟨h4, h5⟩ := clD_le (phiD d k) (hφ k hk)
  have a := clEnd_ends (n := d.next.length) (nx := nxD d) (en := enD d) (s := clD d (phiD d k)) (t := phiD d k) (by have := hφ k hk; omega) (hφ k hk) h5
  simp only [Int.toNat_natCast]
  show enD d (((clD d (phiD d k) : Nat) : Int).toNat) = enD x (((k : Nat) : Int).toNat)
  rw [Int.toNat_natCast, Int.toNat_natCast, a, hen k hk]
def clsL (n : Nat) (cl : Nat → Nat) : List Int := (List.range n).map fun s => (cl s : Int)
theorem clsL_len (n : Nat) (cl : Nat → Nat) : (clsL n cl).length = n := by simp [clsL]
theorem clsL_at {n s : Nat} (cl : Nat → Nat) (h : s < n) : (clsL n cl).getD s 0 = (cl s : Int) := by simp [clsL, h]
def sameR (d : DfaD) (cl : Nat → Nat) (s o : Nat) (k : Nat) : Bool := (List.range k).all fun c => decide (cl (nxD d s c) = cl (nxD d o c))
theorem sameR_succ (d : DfaD) (cl : Nat → Nat) (s o k : Nat) : sameR d cl s o (k + 1) = (sameR d cl s o k && decide (cl (nxD d s k) = cl (nxD d o k))) := by
 unfold sameR
 rw [List.range_succ, List.all_append]
 simp
theorem sameR_no {d : DfaD} {cl : Nat → Nat} {s o k : Nat} (hk : k < 3) (h : cl (nxD d s k) ≠ cl (nxD d o k)) : sameR d cl s o 3 = false := by
 cases he : sameR d cl s o 3 with
 | false => rfl
 | true =>
  have := List.all_eq_true.1 he k (List.mem_range.2 hk)
  exact absurd (by simpa using this) h
set_option maxRecDepth 100000 in
set_option maxHeartbeats 4000000 in
theorem sameRow_any (d : DfaD) (cl : Nat → Nat) (s o : Nat) (dv cv : Value) (w : World) (hd : dfaOk d.next d.ends = true) (hs : s < d.next.length) (ho : o < d.next.length) (hcl : ∀ t, t < d.next.length → cl t < d.next.length) (h : DfaR 0 w dv d) (hc : Ints 0 w cv (clsL d.next.length cl)) (r : Bool) (hr : sameR d cl s o 3 = r) :
  Calls Try.prog 151 #[dv, cv, .int .i64 s, .int .i64 o] w fun e w' => e = .returned (.bool r) ∧ Below w.heap.size w w' := by
 obtain ⟨v1, v2, rfl, q1, q2⟩ := h
 have hf := fine_of hd
 obtain ⟨L, hL⟩ : ∃ L, L = d.next.length := ⟨_, rfl⟩
 obtain ⟨hl1, hl2, -⟩ := dfaOk_len hd
 have hrow := fun (i : Nat) (hi : i < d.next.length) => (dfaOk_row hd hi).1
 have hnx := fun (i c : Nat) (hi : i < d.next.length) (h3 : c < 3) => (nxD_lt hf hi h3)
 obtain ⟨av, cvv, rfl, hc1, hc2, hr1⟩ := q1.formI
 obtain ⟨b1, o1, rfl, -, hb1, hcs1⟩ := hr1 (by omega)
 obtain ⟨ac, cc, rfl, hc3, hc4, hr2⟩ := hc.form
 rw [clsL_len] at hc3 hr2
 rw [clsL_len]
 obtain ⟨b2, o2, rfl, -, hb2, hcs2⟩ := hr2 (by omega)
 have hcell : ∀ t, t < d.next.length → w.cell? ⟨b2, o2 + t, none⟩ = some (.int .i64 (cl t : Nat)) := fun t ht => by rw [hcs2 t ht, clsL_at cl ht]
 obtain ⟨ax, cs, hks, -, -, hIs⟩ := hcs1 s hs
 obtain ⟨ao, co, hko, -, -, hIo⟩ := hcs1 o ho
 rw [hrow s hs] at hks hIs
 rw [hrow o ho] at hko hIo
 obtain ⟨_, _, hform, -, -, hrs⟩ := hIs.form
 rw [hrow s hs] at hform hrs
 simp only [Value.slice.injEq, true_and] at hform
 obtain ⟨rfl, rfl⟩ := hform
 obtain ⟨b3, o3, rfl, -, hb3, hcs3⟩ := hrs (by omega)
 obtain ⟨_, _, hform, -, -, hro⟩ := hIo.form
 rw [hrow o ho] at hform hro
 simp only [Value.slice.injEq, true_and] at hform
 obtain ⟨rfl, rfl⟩ := hform
 obtain ⟨b4, o4, rfl, -, hb4, hcs4⟩ := hro (by omega)
 have hval : ∀ i c, i < d.next.length → c < 3 → (d.next.getD i []).getD c 0 = ((nxD d i c : Nat) : Int) := fun i c hi h3 => by
  have := (hnx i c hi h3).2
  unfold dnx at this
  rwa [Int.toNat_natCast] at this
 have hS0 := (St.start w).alloc _ rfl #[.slice (some ⟨b1, o1, none⟩) d.next.length cvv, v2] 27
 have Hnx := Lib.hid hnx
 have Hval := Lib.hid hval
 have Hcell := Lib.hid hcell
 have Hks := Lib.hid hks
 have Hko := Lib.hid hko
 have Hcs3 := Lib.hid hcs3
 have Hcs4 := Lib.hid hcs4
 have Hcl := Lib.hid hcl
 rw [← hL] at hs ho hl1 hl2 hS0
 rw [← hL]
 have hsI : (s : Int) < L := by omega
 have hoI : (o : Int) < L := by omega
 have HhS0 := Lib.hid hS0; clear hS0
 have Hhr := Lib.hid hr; clear hr
 have HhL := Lib.hid hL; clear hL
 clear hnx hval hcell hks hko hcs3 hcs4 hcl hcs1 hcs2 hr1 hr2 hrs hro hIs hIo q1 q2 hc hd hrow hf
 go_enter Try.func151, Try.ntmps151
 go_wp2
 go_loopw [10] (fun i wr => ∃ k : Nat, i = .int .i64 k ∧ k ≤ 3 ∧ sameR d cl s o k = true ∧ St w wr [Ent.box w.heap.size #[.slice (some ⟨b1, o1, none⟩) L cvv, v2] 27]) (fun i _ => 3 - (intOf i).toNat)
 case atStart => exact ⟨0, rfl, by omega, rfl, HhS0.out⟩
 case round =>
  obtain ⟨k, rfl, hk, hsm, hS⟩ := hrel
  by_cases hlt : k < 3
  ·have hlt2 : (k : Int) < 3 := by omega
   have hsn : s < d.next.length := by have := HhL.out; omega
   have hon : o < d.next.length := by have := HhL.out; omega
   have h1 := (Hnx.out s k hsn hlt).1
   have h2 := (Hnx.out o k hon hlt).1
   have e0 := hS.cell (v := .slice (some ⟨b1, o1, none⟩) L cvv) 0 0 rfl rfl
   have e1 := (bcell hS.bel b1 _ hb1).trans Hks.out
   have e2 := (bcell hS.bel b1 _ hb1).trans Hko.out
   have e3 := (bcell hS.bel b3 _ hb3).trans (Hcs3.out k hlt)
   have e4 := (bcell hS.bel b4 _ hb4).trans (Hcs4.out k hlt)
   rw [Hval.out s k hsn hlt] at e3
   rw [Hval.out o k hon hlt] at e4
   have e5 := (bcell hS.bel b2 _ hb2).trans (Hcell.out _ h1)
   have e6 := (bcell hS.bel b2 _ hb2).trans (Hcell.out _ h2)
   have hsucc := sameR_succ d cl s o k
   obtain ⟨p, hp⟩ : ∃ p, p = nxD d s k := ⟨_, rfl⟩
   obtain ⟨q, hq⟩ : ∃ q, q = nxD d o k := ⟨_, rfl⟩
   rw [← hp] at h1 e3 e5 hsucc
   rw [← hq] at h2 e4 e6 hsucc
   rw [hsm, Bool.true_and] at hsucc
   rw [← HhL.out] at h1 h2
   have hpI : (p : Int) < L := by omega
   have hqI : (q : Int) < L := by omega
   have Hhp := Lib.hid hp; clear hp
   have Hhq := Lib.hid hq; clear hq
   have HhS := Lib.hid hS; clear hS
   have Hhsm := Lib.hid hsm; clear hsm
   have Hhsucc := Lib.hid hsucc; clear hsucc
   clear h1 h2 hsn hon
   by_cases he : cl p = cl q
   ·have heI : ((cl p : Int) != (cl q : Int)) = false := by rw [he]; simp
    have heI2 : ((cl p : Int) = (cl q : Int)) = True := by simp [he]
    have heI3 : (!((cl p : Int) == (cl q : Int))) = false := by rw [he]; simp
    have Hhe := Lib.hid he; clear he
    go_wp2
    go_quiet (fail)
    go_wp2
    go_roundw
    case rel => exact ⟨k + 1, by go_num, by omega, by rw [Hhsucc.out]; simp [Hhe.out], HhS.out.drewN _⟩
    case measure => simp [intOf]; omega
   ·have heI : ((cl p : Int) != (cl q : Int)) = true := by simp; omega
    have heI2 : ((cl p : Int) = (cl q : Int)) = False := by simp; omega
    have heI3 : (!((cl p : Int) == (cl q : Int))) = true := by simp; omega
    have Hhe := Lib.hid he; clear he
    go_wp2
    go_quiet (fail)
    go_wp2
    go_ret
    have hrf : false = r := by rw [← Hhr.out]; exact (sameR_no hlt (by rw [← Hhp.out, ← Hhq.out]; exact Hhe.out)).symm
    subst hrf
    exact ⟨rfl, (HhS.out.drewN _).bel⟩
  ·obtain rfl : k = 3 := by omega
   have hrt : true = r := by rw [← Hhr.out, hsm]
   subst hrt
   have HhS := Lib.hid hS; clear hS
   have Hhsm := Lib.hid hsm; clear hsm
   go_wp2
   go_ret
   exact ⟨rfl, HhS.out.bel⟩
set_option maxRecDepth 100000 in
set_option maxHeartbeats 1600000 in
theorem clone_any (xs : List Int) (v : Value) (w : World) (hl : xs.length ≤ 1000000) (h : Ints 0 w v xs) :
  Calls Try.prog 124 #[v] w fun e w' => ∃ a c, e = .returned (.slice a xs.length c) ∧ St w w' [Ent.row 3 1 (.slice a xs.length c) xs.length (intCells xs)] := by
 have hx := h
 obtain ⟨a, cap, rfl, hc1, hc2, hr⟩ := h.form
 obtain ⟨j0, hj, hy0, hy1, hy2⟩ := info_parts Try.infoInt
 cases a with
 | none =>
  have h0 : xs = [] := by
   rcases Nat.eq_zero_or_pos xs.length with h0 | h0
   ·exact List.eq_nil_of_length_eq_zero h0
   ·obtain ⟨b, off, hb, -⟩ := hr h0
    cases hb
  subst h0
  have qT := fun (w' : World) => Lib.run_eql_slice_nil (P := Try.prog) w' 48 3 none 0 cap 0 0 Try.underlying48
  simp only [Option.isNone] at qT
  go_enter Try.func124, Try.ntmps124
  go_wp2
  go_ret
  exact ⟨none, 0, rfl, (St.start w).nilRow 3 1⟩
 | some ad =>
  have hS0 := ((St.start w).alloc _ rfl #[] 3).boxrow 0 0 1 [] rfl rfl (Nat.zero_le _)
  have hRw := hS0.row 0 rfl
  have hX := hx.below hS0.bel
  have HhS0 := Lib.hid hS0; clear hS0
  have HhRw := Lib.hid hRw; clear hRw
  have HhX := Lib.hid hX; clear hX
  have Hhx := Lib.hid hx; clear hx
  clear hr
  have qT := fun (w' : World) => Lib.run_eql_slice_nil (P := Try.prog) w' 48 3 (some ad) xs.length cap 0 0 Try.underlying48
  simp only [Option.isNone] at qT
  go_enter Try.func124, Try.ntmps124
  go_wp2_with (at_builtin; refine wpList_append_sl _ rfl _ _ _ rfl _ 3 j0 (.int .i64 0) 1 8 Try.underlying48 hj hy0 hy1 hy2 rfl (by omega) _ 0 _ rfl HhRw.out _ xs.length (intCells xs) rfl HhX.out on_is (by unfold maxLen; omega) (by omega) HhS0.out.size ?_; intro a6 c6 w6 hown6 hgrow6 hat6; have HS6 := Lib.hid (HhS0.out.appS 0 rfl hown6 hgrow6 hat6); clear hown6 hgrow6 hat6)
  go_ret
  have hq : St w w6 [Ent.row 3 1 (.slice a6 (0 + xs.length) c6) (0 + xs.length) (intCells xs)] := HS6.out
  rw [Nat.zero_add] at hq
  exact ⟨a6, c6, rfl, hq⟩
theorem turnM_take {ms : List (Int × Int × Int)} {k : Nat} (hk : k < ms.length) : (ms.take (k + 1)).map turnM = (ms.take k).map turnM ++ [((ms.getD k (0, 0, 0)).2.2, (ms.getD k (0, 0, 0)).2.1, (ms.getD k (0, 0, 0)).1)] := by
 rw [List.take_succ_eq_append_getElem hk, List.map_append]
 simp [turnM, hk]
set_option maxRecDepth 100000 in
set_option maxHeartbeats 4000000 in
theorem implTurn_any (n : NfaD) (v1 v2 v3 : Value) (w : World) (hml : n.moves.length ≤ 100000) (hfl : n.firsts.length ≤ 100000) (hel : n.ends.length ≤ 100000) (h1 : Moves 0 w v1 n.moves) (h2 : Ints 0 w v2 n.firsts) (h3 : Ints 0 w v3 n.ends) :
  Calls Try.prog 71 #[.agg #[.int .i64 n.states, v1, v2, v3]] w fun e w' => RNfaS (turnN n) w e w' := by
 obtain ⟨L, hL⟩ : ∃ L, L = n.moves.length := ⟨_, rfl⟩
 have hLle : L ≤ 100000 := by omega
 obtain ⟨av, cv, rfl, hc1, hc2, hr1⟩ := h1.form
 rw [← hL] at hc1 hr1
 rw [← hL]
 obtain ⟨i0, hi, hz0, hz1, hz2⟩ := info_parts Try.infoMv
 have hS := ((St.start w).alloc _ rfl #[.int .i64 n.states, .slice av L cv, v2, v3] 50).alloc (w.heap.size + 1) (by simp) #[.int .i64 0, .slice none 0 0, .slice none 0 0, .slice none 0 0] 50
 obtain ⟨W, hW⟩ : ∃ W, W = (w.alloc (.cells #[.int .i64 n.states, .slice av L cv, v2, v3] 50)).alloc (.cells #[.int .i64 0, .slice none 0 0, .slice none 0 0, .slice none 0 0] 50) := ⟨_, rfl⟩
 rw [← hW] at hS
 have e0 := hS.cell (v := .int .i64 n.states) 0 0 rfl rfl
 have e1 := hS.cell (v := .slice av L cv) 0 1 rfl rfl
 have e2 := hS.cell (v := v2) 0 2 rfl rfl
 have e3 := hS.cell (v := v3) 0 3 rfl rfl
 have l0 := (hS.boxlt 0 rfl).2
 have Hk := Lib.hid (fun (w' : World) (h : Below W.heap.size W w') => (show w'.cell? ⟨w.heap.size, 0, none⟩ = some (.int .i64 n.states) ∧ w'.cell? ⟨w.heap.size, 1, none⟩ = some (.slice av L cv) ∧ w'.cell? ⟨w.heap.size, 2, none⟩ = some v2 ∧ w'.cell? ⟨w.heap.size, 3, none⟩ = some v3 from ⟨(bcell h _ _ l0).trans e0, (bcell h _ _ l0).trans e1, (bcell h _ _ l0).trans e2, (bcell h _ _ l0).trans e3⟩))
 have Hc2 := Lib.hid (fun (w' : World) (hb : Below w.heap.size w w') => clone_any n.firsts v2 w' (by omega) (h2.below hb))
 have Hc3 := Lib.hid (fun (w' : World) (hb : Below w.heap.size w w') => clone_any n.ends v3 w' (by omega) (h3.below hb))
 have Hr1 := Lib.hid hr1
 have HWB := Lib.hid hS.drew.bel
 have HhS := Lib.hid hS; clear hS
 have HhL := Lib.hid hL; clear hL
 have Hhi := Lib.hid hi; clear hi
 have Hhz0 := Lib.hid hz0; clear hz0
 have Hhz1 := Lib.hid hz1; clear hz1
 have Hhz2 := Lib.hid hz2; clear hz2
 clear hr1 h1 h2 h3 l0
 go_enter Try.func71, Try.ntmps71
 go_wp2
 rw [← hW]
 have HhW := Lib.hid hW; clear hW
 refine wp_region_any (by kernel_rfl) ?_
 refine wpAny_inv (fun listed a w' => ∃ (l0 l1 l2 l3 l4 l5 l6 l7 l8 l9 l10 : Bool) (a5 a6 : Option Addr) (c5 c6 b : Nat), listed = #[l0, l1, l2, l3, l4, l5, l6, l7, l8, l9, l10] ∧ (l8 = true → l4 = true ∧ l7 = true) ∧ (l10 = true → l8 = true ∧ l9 = true) ∧
   a = ⟨#[.agg #[.int .i64 n.states, .slice av L cv, v2, v3], .pointer (some ⟨w.heap.size, 0, none⟩), .pointer (some ⟨w.heap.size + 1, 0, none⟩), (if l9 = true then .pointer (some ⟨b, 0, none⟩) else undef), undef, undef, (if l0 = true then .pointer (some ⟨w.heap.size, 0, none⟩) else undef), (if l1 = true then .int .i64 n.states else undef), (if l2 = true then .pointer (some ⟨w.heap.size, 3, none⟩) else undef), (if l3 = true then v3 else undef), (if l4 = true then .slice a5 n.ends.length c5 else undef), (if l5 = true then .pointer (some ⟨w.heap.size, 2, none⟩) else undef), (if l6 = true then v2 else undef), (if l7 = true then .slice a6 n.firsts.length c6 else undef), (if l8 = true then .agg #[.int .i64 n.states, .slice none 0 0, .slice a5 n.ends.length c5, .slice a6 n.firsts.length c6] else undef), undef, undef, undef, undef, undef, undef, undef, undef, undef, undef, undef, undef, undef, undef, undef, undef, undef, undef, undef, undef, undef], []⟩ ∧
   St w w' [Ent.box w.heap.size #[.int .i64 n.states, .slice av L cv, v2, v3] 50, Ent.box (w.heap.size + 1) #[.int .i64 0, .slice none 0 0, .slice none 0 0, .slice none 0 0] 50,
    (if l4 = true then Ent.row 3 1 (.slice a5 n.ends.length c5) n.ends.length (intCells n.ends) else Ent.nil), (if l7 = true then Ent.row 3 1 (.slice a6 n.firsts.length c6) n.firsts.length (intCells n.firsts) else Ent.nil),
    (if l9 = true then Ent.box b (if l10 = true then #[.int .i64 n.states, .slice none 0 0, .slice a5 n.ends.length c5, .slice a6 n.firsts.length c6] else #[.int .i64 0, .slice none 0 0, .slice none 0 0, .slice none 0 0]) 50 else Ent.nil)]) ?_ ?_ _ _ _ _ (unl_le _ _) ?_
 ·rintro listed a w' ⟨l0, l1, l2, l3, l4, l5, l6, l7, l8, l9, l10, a5, a6, c5, c6, b, rfl, hd8, hd10, rfl, hS⟩ i hi
  obtain ⟨hun, o, ho, hall⟩ := mem_ready.1 hi
  have hlt := (Array.getElem?_eq_some_iff.1 ho).1
  refine wpOp_step ho (fun K hK => ?_)
  clear hi
  have HhS := Lib.hid hS; clear hS
  obtain h | h | h | h | h | h | h | h | h | h | h : i = 0 ∨ i = 1 ∨ i = 2 ∨ i = 3 ∨ i = 4 ∨ i = 5 ∨ i = 6 ∨ i = 7 ∨ i = 8 ∨ i = 9 ∨ i = 10 := by simp at hlt; omega
  all_goals subst h
  all_goals simp only [List.getElem?_toArray, List.getElem?_cons_zero, List.getElem?_cons_succ, Option.some.injEq] at ho
  all_goals subst ho
  all_goals simp [Region.binds] at hun hall
  ·subst hun
   go_simp
   exact hK _ _ ⟨true, l1, l2, l3, l4, l5, l6, l7, l8, l9, l10, a5, a6, c5, c6, b, rfl, hd8, hd10, rfl, HhS.out⟩
  ·obtain rfl := hall
   subst hun
   have e0 := HhS.out.cell (v := .int .i64 n.states) 0 0 rfl rfl
   go_simp
   exact hK _ _ ⟨true, true, l2, l3, l4, l5, l6, l7, l8, l9, l10, a5, a6, c5, c6, b, rfl, hd8, hd10, rfl, HhS.out⟩
  ·subst hun
   go_simp
   exact hK _ _ ⟨l0, l1, true, l3, l4, l5, l6, l7, l8, l9, l10, a5, a6, c5, c6, b, rfl, hd8, hd10, rfl, HhS.out⟩
  ·obtain rfl := hall
   subst hun
   have e0 := HhS.out.cell (v := v3) 0 3 rfl rfl
   go_simp
   exact hK _ _ ⟨l0, l1, true, true, l4, l5, l6, l7, l8, l9, l10, a5, a6, c5, c6, b, rfl, hd8, hd10, rfl, HhS.out⟩
  ·obtain rfl := hall
   subst hun
   obtain rfl : l8 = false := offL hd8 rfl
   obtain rfl : l10 = false := offL hd10 rfl
   go_simp
   go_at_call 124
   refine (Hc3.out _ HhS.out.bel).mono ?_
   rintro e u1 ⟨a7, c7, rfl, hSx⟩
   have hS2 := (HhS.out.cat hSx).pick [0, 1, 5, 3, 4] (by decide)
   have HhS2 := Lib.hid hS2; clear hS2
   go_simp
   exact hK _ _ ⟨l0, l1, l2, true, true, l5, l6, l7, false, l9, false, a7, a6, c7, c6, b, rfl, by simp, by simp, rfl, HhS2.out⟩
  ·subst hun
   go_simp
   exact hK _ _ ⟨l0, l1, l2, l3, l4, true, l6, l7, l8, l9, l10, a5, a6, c5, c6, b, rfl, hd8, hd10, rfl, HhS.out⟩
  ·obtain rfl := hall
   subst hun
   have e0 := HhS.out.cell (v := v2) 0 2 rfl rfl
   go_simp
   exact hK _ _ ⟨l0, l1, l2, l3, l4, true, true, l7, l8, l9, l10, a5, a6, c5, c6, b, rfl, hd8, hd10, rfl, HhS.out⟩
  ·obtain ⟨rfl, rfl⟩ := hall
   subst hun
   obtain rfl : l8 = false := offR hd8 rfl
   obtain rfl : l10 = false := offL hd10 rfl
   go_simp
   go_at_call 124
   refine (Hc2.out _ HhS.out.bel).mono ?_
   rintro e u1 ⟨a7, c7, rfl, hSx⟩
   have hS2 := (HhS.out.cat hSx).pick [0, 1, 2, 5, 4] (by decide)
   have HhS2 := Lib.hid hS2; clear hS2
   go_simp
   exact hK _ _ ⟨l0, l1, l2, l3, true, l5, true, true, false, l9, false, a5, a7, c5, c7, b, rfl, by simp, by simp, rfl, HhS2.out⟩
  ·obtain ⟨rfl, rfl, rfl⟩ := hall
   subst hun
   obtain rfl : l10 = false := offL hd10 rfl
   go_simp
   exact hK _ _ ⟨l0, true, l2, l3, true, l5, l6, true, true, l9, false, a5, a6, c5, c6, b, rfl, by simp, by simp, rfl, HhS.out⟩
  ·subst hun
   obtain rfl : l10 = false := offR hd10 rfl
   have hS2 := (HhS.out.alloc _ rfl #[.int .i64 0, .slice none 0 0, .slice none 0 0, .slice none 0 0] 50).pick [0, 1, 2, 3, 5] (by decide)
   have HhS2 := Lib.hid hS2; clear hS2
   go_simp
   refine hK _ _ ⟨l0, l1, l2, l3, l4, l5, l6, l7, l8, true, false, a5, a6, c5, c6, _, rfl, hd8, by simp, rfl, HhS2.out⟩
  ·obtain ⟨rfl, rfl, rfl, rfl, rfl, rfl, rfl, rfl, rfl, rfl, -⟩ := hall
   subst hun
   have f0 := HhS.out.fr 4 0 rfl
   have k0 := HhS.out.cell (v := .int .i64 0) 4 0 rfl rfl
   have f1 := HhS.out.fr 4 1 rfl
   have k1 := HhS.out.cell (v := .slice none 0 0) 4 1 rfl rfl
   have f2 := HhS.out.fr 4 2 rfl
   have k2 := HhS.out.cell (v := .slice none 0 0) 4 2 rfl rfl
   have f3 := HhS.out.fr 4 3 rfl
   have k3 := HhS.out.cell (v := .slice none 0 0) 4 3 rfl rfl
   go_simp
   have hq := (((HhS.out.set 4 rfl 0 (.int .i64 n.states)).set 4 rfl 1 (.slice none 0 0)).set 4 rfl 2 (.slice a5 n.ends.length c5)).set 4 rfl 3 (.slice a6 n.firsts.length c6)
   exact hK _ _ ⟨true, true, true, true, true, true, true, true, true, true, true, a5, a6, c5, c6, b, rfl, by simp, by simp, rfl, hq⟩
 ·rintro listed a w' ⟨l0, l1, l2, l3, l4, l5, l6, l7, l8, l9, l10, a5, a6, c5, c6, b, rfl, hd8, hd10, rfl, hS⟩ hr
  have hall := ready_nil (by kernel_rfl) rfl hr
  obtain rfl : l0 = true := by simpa using hall 0 (by simp)
  obtain rfl : l1 = true := by simpa using hall 1 (by simp)
  obtain rfl : l2 = true := by simpa using hall 2 (by simp)
  obtain rfl : l3 = true := by simpa using hall 3 (by simp)
  obtain rfl : l4 = true := by simpa using hall 4 (by simp)
  obtain rfl : l5 = true := by simpa using hall 5 (by simp)
  obtain rfl : l6 = true := by simpa using hall 6 (by simp)
  obtain rfl : l7 = true := by simpa using hall 7 (by simp)
  obtain rfl : l8 = true := by simpa using hall 8 (by simp)
  obtain rfl : l9 = true := by simpa using hall 9 (by simp)
  obtain rfl : l10 = true := by simpa using hall 10 (by simp)
  clear hall hr hd8 hd10 e0 e2 e3
  simp only [↓reduceIte] at hS ⊢
  have x1 := hS.cell (v := .slice av L cv) 0 1 rfl rfl
  have hS0 := (hS.pick [0, 1, 2, 3, 4] (by decide)).nilRow 124 3
  have hS1 : St w w' [Ent.box w.heap.size #[.int .i64 n.states, .slice av L cv, v2, v3] 50, Ent.box (w.heap.size + 1) #[.int .i64 0, .slice none 0 0, .slice none 0 0, .slice none 0 0] 50, Ent.row 3 1 (.slice a5 n.ends.length c5) n.ends.length (intCells n.ends), Ent.row 3 1 (.slice a6 n.firsts.length c6) n.firsts.length (intCells n.firsts),
    Ent.box b #[.int .i64 n.states, .slice none 0 0, .slice a5 n.ends.length c5, .slice a6 n.firsts.length c6] 50, Ent.row 124 3 (.slice none 0 0) 0 []] := hS0
  have HhS1 := Lib.hid hS1; clear hS1
  clear hS hS0 e1
  go_wp2
  go_loopw [18] (fun i wr => ∃ (k c1 : Nat) (a1 : Option Addr), i = .int .i64 k ∧ k ≤ L ∧ St w wr [Ent.box w.heap.size #[.int .i64 n.states, .slice av L cv, v2, v3] 50, Ent.box (w.heap.size + 1) #[.int .i64 0, .slice none 0 0, .slice none 0 0, .slice none 0 0] 50, Ent.row 3 1 (.slice a5 n.ends.length c5) n.ends.length (intCells n.ends), Ent.row 3 1 (.slice a6 n.firsts.length c6) n.firsts.length (intCells n.firsts),
    Ent.box b #[.int .i64 n.states, .slice a1 k c1, .slice a5 n.ends.length c5, .slice a6 n.firsts.length c6] 50, Ent.row 124 3 (.slice a1 k c1) k (((n.moves.take k).map turnM).flatMap moveCells)])
   (fun i _ => L - (intOf i).toNat)
  case atStart => exact ⟨0, 0, none, rfl, Nat.zero_le _, HhS1.out⟩
  case round =>
   obtain ⟨k, c1, a1, rfl, hk, hS⟩ := hrel
   by_cases hlt : k < L
   ·have hlt2 : (k : Int) < L := by omega
    obtain ⟨b1, o1, rfl, -, hb1, hcs⟩ := Hr1.out (by omega)
    obtain ⟨z0, z1, z2⟩ := hcs k hlt
    have m0 := (bcell hS.bel b1 _ hb1).trans z0
    have m1 := (bcell hS.bel b1 _ hb1).trans z1
    have m2 := (bcell hS.bel b1 _ hb1).trans z2
    have htk := turnM_take (ms := n.moves) (k := k) (by have := HhL.out; omega)
    obtain ⟨p, hp⟩ : ∃ p, p = n.moves.getD k (0, 0, 0) := ⟨_, rfl⟩
    rw [← hp] at m0 m1 m2 htk
    obtain ⟨p0, p1, p2⟩ := p
    simp only at m0 m1 m2 htk
    have y1 := (hS.alloc_ (.cells #[.int .i64 p0, .int .i64 p1, .int .i64 p2] 124)).cell (v := .slice a1 k c1) 4 1 rfl rfl
    have hSa := (hS.alloc_ (.cells #[.int .i64 p0, .int .i64 p1, .int .i64 p2] 124)).alloc (wr.heap.size + 1) (by simp) #[.int .i64 p2, .int .i64 p1, .int .i64 p0] 124
    have hRw := hSa.row 5 rfl
    have hbx := hSa.box 6 rfl
    have HhS := Lib.hid hS; clear hS
    have HhSa := Lib.hid hSa; clear hSa
    have HhRw := Lib.hid hRw; clear hRw
    have Hhbx := Lib.hid hbx; clear hbx
    have Hhp := Lib.hid hp; clear hp
    have Hhtk := Lib.hid htk; clear htk
    clear hcs z0 z1 z2
    go_wp2_with (at_builtin; refine wpList_append_lies _ rfl _ _ _ rfl _ 124 i0 (.agg #[.int .i64 0, .int .i64 0, .int .i64 0]) 3 24 Try.underlying47 Hhi.out Hhz0.out Hhz1.out Hhz2.out rfl (by omega) _ k _ rfl HhRw.out ⟨wr.heap.size + 1, 0, none⟩ 1 1 [.int .i64 p2, .int .i64 p1, .int .i64 p0] rfl rfl (World.news_of_block Hhbx.out) one_mv (by omega) (by unfold maxLen; omega) (by omega) HhSa.out.size _ rfl ?_; intro g6 c8 w6 hown6 hgrow6 hat6 hlt6; have HS6 := Lib.hid (HhSa.out.app 5 rfl hown6 hgrow6 hat6); have y1 := HS6.out.cell (v := .slice a1 k c1) 4 1 rfl rfl; have y2 := HS6.out.fr 4 1 rfl; clear hown6 hgrow6 hat6 hlt6)
    go_roundw
    case rel =>
     refine ⟨k + 1, c8, some ⟨g6, 0, none⟩, by go_num, by omega, ?_⟩
     rw [Hhtk.out, flatM_snoc]
     exact (HS6.out.set 4 rfl 1 (.slice (some ⟨g6, 0, none⟩) (k + 1) c8)).pick [0, 1, 2, 3, 4, 5] (by decide)
    case measure => simp [intOf]; omega
   ·obtain rfl : k = L := by omega
    have hta : n.moves.take k = n.moves := List.take_of_length_le (by rw [← HhL.out]; exact Nat.le_refl _)
    rw [hta] at hS
    have f0 := hS.fr 1 0 rfl
    have f1 := hS.fr 1 1 rfl
    have f2 := hS.fr 1 2 rfl
    have f3 := hS.fr 1 3 rfl
    have k0 := hS.cell (v := .int .i64 0) 1 0 rfl rfl
    have k1 := hS.cell (v := .slice none 0 0) 1 1 rfl rfl
    have k2 := hS.cell (v := .slice none 0 0) 1 2 rfl rfl
    have k3 := hS.cell (v := .slice none 0 0) 1 3 rfl rfl
    have d0 := hS.cell (v := .int .i64 n.states) 4 0 rfl rfl
    have d1 := hS.cell (v := .slice a1 k c1) 4 1 rfl rfl
    have d2 := hS.cell (v := .slice a5 n.ends.length c5) 4 2 rfl rfl
    have d3 := hS.cell (v := .slice a6 n.firsts.length c6) 4 3 rfl rfl
    have HhS := Lib.hid hS; clear hS
    clear hta
    go_wp2
    have hq := (((HhS.out.set 1 rfl 0 (.int .i64 n.states)).set 1 rfl 1 (.slice a1 k c1)).set 1 rfl 2 (.slice a5 n.ends.length c5)).set 1 rfl 3 (.slice a6 n.firsts.length c6)
    have q0 := hq.cell (v := .int .i64 n.states) 1 0 rfl rfl
    have q1 := hq.cell (v := .slice a1 k c1) 1 1 rfl rfl
    have q2 := hq.cell (v := .slice a5 n.ends.length c5) 1 2 rfl rfl
    have q3 := hq.cell (v := .slice a6 n.firsts.length c6) 1 3 rfl rfl
    refine bodyPost_ret (v := .agg #[.int .i64 n.states, .slice a1 k c1, .slice a5 n.ends.length c5, .slice a6 n.firsts.length c6]) (by simp [results, Try.results71, go_sem, q0, q1, q2, q3]) rfl ?_
    have hkl : k = (turnN n).moves.length := by rw [HhL.out]; simp [turnN]
    refine ⟨a1, c1, a5, c5, a6, c6, by rw [← hkl]; rfl, ?_⟩
    rw [← hkl]
    exact hq.pick [5, 2, 3] (by decide)
 ·refine ⟨false, false, false, false, false, false, false, false, false, false, false, none, none, 0, 0, 0, rfl, by simp, by simp, rfl, ?_⟩
  exact HhS.out.drew.pick [0, 1, 2, 3, 4] (by decide)
end Go.Proofs.Ytalbofnhcpjilaa
