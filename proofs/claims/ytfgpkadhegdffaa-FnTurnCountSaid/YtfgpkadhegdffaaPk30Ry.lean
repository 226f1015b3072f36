/-
  The walks over the program's CompileExpr and StateCount, and over the reference's StateCount.
  Condition: the list of parts reads as such.
-/
import Derived.Test.YtfgpkadhegdffaaRows
import Derived.Test.YtfgpkadhegdffaaPk29Cmp
namespace Go.Proofs.Ytfgpkadhegdffaa
open Go.RowKit
set_option maxRecDepth 100000 in
set_option maxHeartbeats 4000000 in
theorem implCompileExpr_any (K : Nat) (hK : K = 40) (es : List (Int × Int)) (o : Option DfaD) (ho : CompO K es o) (v : Value) (w : World) (h : Pairs 0 w v es) :
    Calls Try.prog 12 #[v] w fun e w' => RTt (o.getD zeD) o.isSome w.heap.size e w' ∧ Below w.heap.size w w' := by
  have H := Lib.hid h
  have HS0 := Lib.hid ((St.start w).alloc _ rfl #[.slice none 0 0, .slice none 0 0] 30)
  clear h
  rcases ho with ⟨hok, t, ht, rfl⟩ | ⟨hok, rfl⟩
  · have hrun : runC K es [] = (compE K t).map fun d => [d] := by rw [← ht]; exact runC_whole hK t
    have hmin : ∀ d, compE K t = some d → minD d = d := fun d h => comp_min hK t h
    obtain ⟨o, ho⟩ : ∃ o, compE K t = o := ⟨_, rfl⟩
    rw [ho] at hrun hmin
    rw [ho]
    have Hc := Lib.hid (show ∀ u : World, Below w.heap.size w u → Calls Try.prog 35 #[v] u fun e w' => RTt (o.getD zeD) o.isSome u.heap.size e w' ∧ Below u.heap.size u w' from fun u hb => implCompileK_any K hK es o hrun hmin v u hok (H.out.below hb))
    obtain ⟨D, hD⟩ : ∃ D, o.getD zeD = D := ⟨_, rfl⟩
    obtain ⟨fb, hfb⟩ : ∃ fb, o.isSome = fb := ⟨_, rfl⟩
    rw [hD, hfb] at Hc
    rw [hD, hfb]
    have Hhok := Lib.hid hok; clear hok
    clear hrun hmin ho ht hD hfb
    go_enter Try.func12, Try.ntmps12
    go_wp2_with fail
    refine (implExprValid_any es v _ (H.out.below HS0.out.bel) _ Hhok.out).mono ?_
    rintro e w1 ⟨rfl, hb1⟩
    have HS1 := Lib.hid (HS0.out.call hb1)
    clear hb1
    go_wp2_with fail
    refine (Hc.out _ HS1.out.bel).mono ?_
    rintro e w2 ⟨⟨a1, c1, a2, c2, rfl, hown⟩, hb2⟩
    have hS5 := HS1.out.call hb2
    have f0 := hS5.fr 0 0 rfl
    have f1 := hS5.fr 0 1 rfl
    have k0 := hS5.cell (v := .slice none 0 0) 0 0 rfl rfl
    have k1 := hS5.cell (v := .slice none 0 0) 0 1 rfl rfl
    have hDM := DMem.of hown HS1.out.size
    have hb0 := hS5.box 0 rfl
    have HS5 := Lib.hid hS5
    have HDM := Lib.hid hDM
    have Hhb0 := Lib.hid hb0; clear hb0
    clear hS5 hown hb2 hDM
    go_wp2
    have hq := (HS5.out.set 0 rfl 0 (.slice a1 D.next.length c1)).set 0 rfl 1 (.slice a2 D.ends.length c2)
    have q0 := hq.cell (v := .slice a1 D.next.length c1) 0 0 rfl rfl
    have q1 := hq.cell (v := .slice a2 D.ends.length c2) 0 1 rfl rfl
    have hm := (HDM.out.set Hhb0.out 0 (.slice a1 D.next.length c1)).set (Hhb0.out.set 0 _) 1 (.slice a2 D.ends.length c2)
    refine bodyPost_ret (v := .tuple #[.agg #[.slice a1 D.next.length c1, .slice a2 D.ends.length c2], .bool fb]) (by simp [results, Try.results12, go_sem, q0, q1]) rfl ⟨?_, hq.bel⟩
    exact ⟨a1, c1, a2, c2, rfl, _, _, rfl, hm.1, hm.2⟩
  · have Hhok := Lib.hid hok; clear hok
    go_enter Try.func12, Try.ntmps12
    go_wp2_with fail
    refine (implExprValid_any es v _ (H.out.below HS0.out.bel) _ Hhok.out).mono ?_
    rintro e w1 ⟨rfl, hb1⟩
    have HS5 := Lib.hid (HS0.out.call hb1)
    clear hb1
    have f0 := HS5.out.fr 0 0 rfl
    have f1 := HS5.out.fr 0 1 rfl
    have k0 := HS5.out.cell (v := .slice none 0 0) 0 0 rfl rfl
    have k1 := HS5.out.cell (v := .slice none 0 0) 0 1 rfl rfl
    go_wp2
    have hq := (HS5.out.set 0 rfl 0 (.slice none 0 0)).set 0 rfl 1 (.slice none 0 0)
    have q0 := hq.cell (v := .slice none 0 0) 0 0 rfl rfl
    have q1 := hq.cell (v := .slice none 0 0) 0 1 rfl rfl
    refine bodyPost_ret (v := .tuple #[.agg #[.slice none 0 0, .slice none 0 0], .bool false]) (by simp [results, Try.results12, go_sem, q0, q1]) rfl ⟨?_, hq.bel⟩
    exact ⟨none, 0, none, 0, rfl, zeD_own _ _ _ _ _⟩
-- ways through an automaton of any size
theorem clN_pth {N : Nat} {ms : List (Int × Int × Int)} (hm : mvIn N ms) {v t : Nat} (hv : v < 2 ^ N) : (clV N ms v).testBit t = true ↔ ∃ s : Nat, s < N ∧ v.testBit s = true ∧ Pth ms s [] t := by
  constructor
  · intro h
    obtain ⟨u, hu⟩ := nat_of (fun t => ∃ s : Nat, s < N ∧ v.testBit s = true ∧ Pth ms s [] t) N
    have hc : closedV ms u := by
      intro m hmm he hf
      obtain ⟨h1, s, hs, hvs, hp⟩ := (hu _).1 hf
      have h2 := hm m hmm
      refine (hu _).2 ⟨by omega, s, hs, hvs, ?_⟩
      have e1 : ((m.1.toNat : Nat) : Int) = m.1 := by omega
      have e2 : ((m.2.2.toNat : Nat) : Int) = m.2.2 := by omega
      rw [e1] at hp
      rw [e2]
      refine hp.append (y := []) (.eps ?_ (.here _))
      rw [← he]
      exact hmm
    have hsub : subV v u := by
      intro s hs
      have := lt_of_bit hv hs
      exact (hu s).2 ⟨this, s, this, hs, .here _⟩
    exact ((hu t).1 (clV_in hc hsub t h)).2
  · rintro ⟨s, hs, hvs, hp⟩
    have := hp.closed (clV_closed hm v) rfl (by rw [Int.toNat_natCast]; exact clV_sub N ms v s hvs)
    rwa [Int.toNat_natCast] at this
theorem stN_pth {N : Nat} {ms : List (Int × Int × Int)} (hm : mvIn N ms) {v t : Nat} (c : Nat) : (stV N ms v (c : Int)).testBit t = true ↔ ∃ x, x ∈ ms ∧ x.2.1 = (c : Int) ∧ v.testBit x.1.toNat = true ∧ Pth ms x.2.2 [] t := by
  have hlt : ms.foldl (stMove v c) 0 < 2 ^ N := foldl_inv _ (fun u => u < 2 ^ N) (fun _ _ hx hu => stMove_lt hm hx hu) (Nat.two_pow_pos N)
  unfold stV
  rw [clN_pth hm hlt]
  constructor
  · rintro ⟨s, hs, hb, hp⟩
    rw [stFold_bit] at hb
    rcases hb with hb | ⟨m, hmm, h1, h2, h3⟩
    · simp at hb
    · refine ⟨m, hmm, h1, h2, ?_⟩
      have e : m.2.2 = (s : Int) := by have := (hm m hmm).2; omega
      rw [e]
      exact hp
  · rintro ⟨x, hx, h1, h2, hp⟩
    have h4 := (hm x hx).2
    refine ⟨x.2.2.toNat, by omega, ?_, ?_⟩
    · rw [stFold_bit]
      exact .inr ⟨x, hx, h1, h2, rfl⟩
    · have e : ((x.2.2.toNat : Nat) : Int) = x.2.2 := by omega
      rw [e]
      exact hp
theorem foldN_pth {N : Nat} {ms : List (Int × Int × Int)} (hm : mvIn N ms) : ∀ (cs : List Nat) (V : Nat), V < 2 ^ N → closedV ms V → ∀ t, (cs.foldl (fun v (c : Nat) => stV N ms v (c : Int)) V).testBit t = true ↔ ∃ s : Nat, s < N ∧ V.testBit s = true ∧ Pth ms s cs t
  | [], V, hV, hc, t => by
    rw [List.foldl_nil]
    constructor
    · intro h
      exact ⟨t, lt_of_bit hV h, h, .here _⟩
    · rintro ⟨s, hs, h1, h2⟩
      have := h2.closed hc rfl (by rwa [Int.toNat_natCast])
      rwa [Int.toNat_natCast] at this
  | c :: cs, V, hV, hc, t => by
    rw [List.foldl_cons, foldN_pth hm cs _ (stV_lt hm V c) (clV_closed hm _)]
    constructor
    · rintro ⟨s, hs, h1, h2⟩
      rw [stN_pth hm] at h1
      obtain ⟨x, hx, h3, h4, h5⟩ := h1
      have h6 := (hm x hx).1
      refine ⟨x.1.toNat, by omega, h4, ?_⟩
      have e : ((x.1.toNat : Nat) : Int) = x.1 := by omega
      rw [e]
      refine .step (t := x.2.2) ?_ (h5.append h2)
      rw [← h3]
      exact hx
    · rintro ⟨s, hs, h1, h2⟩
      obtain ⟨m, h3, h4, h5, h6⟩ := h2.split rfl
      have h7 := (hm m h3).2
      refine ⟨m.2.2.toNat, by omega, ?_, ?_⟩
      · rw [stN_pth hm]
        have := h5.closed hc rfl (by rwa [Int.toNat_natCast])
        refine ⟨m, h3, h4, this, ?_⟩
        have e : ((m.2.2.toNat : Nat) : Int) = m.2.2 := by omega
        rw [e]
        exact .here _
      · have e : ((m.2.2.toNat : Nat) : Int) = m.2.2 := by omega
        rw [e]
        exact h6
def accP (n : NfaD) (w : List Nat) : Prop := ∃ f ∈ n.firsts, ∃ e ∈ n.ends, Pth n.moves f w e
theorem foldl_nxN {N : Nat} {n : NfaD} : ∀ (w : List Nat) (v : Nat), w.foldl (nxSM N n) (((v : Nat) : Int), 0) = (((w.foldl (fun v (c : Nat) => stV N n.moves v (c : Int)) v : Nat) : Int), 0)
  | [], _ => rfl
  | c :: w, v => by
    rw [List.foldl_cons, List.foldl_cons, ← foldl_nxN w]
    rfl
theorem detM_acc {N K : Nat} {n : NfaD} {D : DfaD} (hm : mvIn N n.moves) (hf : inN N n.firsts) (he : inN N n.ends) (h : detM N K n = some D) {w : List Nat} (hw : isW w) : accD D w = true ↔ accP n w := by
  unfold detM at h
  split at h
  · rename_i h2
    simp only [Option.some.injEq] at h
    subst h
    unfold metSM at h2 ⊢
    rw [accD_num h2 hw, foldl_nxN]
    show (n.ends.any fun s => (w.foldl (fun v (c : Nat) => stV N n.moves v (c : Int)) (clV N n.moves (setV n.firsts))).testBit s.toNat) = true ↔ _
    have hlt : clV N n.moves (setV n.firsts) < 2 ^ N := clIt_lt hm (setV_lt hf) N
    have hrun := foldN_pth hm w _ hlt (clV_closed hm (setV n.firsts))
    rw [List.any_eq_true]
    constructor
    · rintro ⟨e, hee, hb⟩
      obtain ⟨s, hs, h1, h2⟩ := (hrun _).1 hb
      rw [clN_pth hm (setV_lt hf)] at h1
      obtain ⟨r, hr, h3, h4⟩ := h1
      rw [setV_bit, List.any_eq_true] at h3
      obtain ⟨f, hff, h5⟩ := h3
      have h5 := of_decide_eq_true h5
      have h6 := hf f hff
      have h7 := he e hee
      refine ⟨f, hff, e, hee, ?_⟩
      have e1 : (r : Int) = f := by omega
      have e2 : ((e.toNat : Nat) : Int) = e := by omega
      rw [e1] at h4
      rw [e2] at h2
      exact h4.append h2
    · rintro ⟨f, hff, e, hee, hp⟩
      have h6 := hf f hff
      have h7 := he e hee
      refine ⟨e, hee, (hrun _).2 ⟨f.toNat, by omega, ?_, ?_⟩⟩
      · exact clV_sub N n.moves _ _ (setV_mem hff)
      · have e1 : ((f.toNat : Nat) : Int) = f := by omega
        have e2 : ((e.toNat : Nat) : Int) = e := by omega
        rw [e1, e2]
        exact hp
  · cases h
def StarL (L : List Nat → Prop) (w : List Nat) : Prop := ∃ ws : List (List Nat), w = ws.flatten ∧ ∀ u ∈ ws, L u
theorem StarL.nil {L : List Nat → Prop} : StarL L [] := ⟨[], rfl, by simp⟩
theorem StarL.cons {L : List Nat → Prop} {u w : List Nat} (h : L u) (h' : StarL L w) : StarL L (u ++ w) := by
  obtain ⟨ws, rfl, hw⟩ := h'
  exact ⟨u :: ws, rfl, fun x hx => by
    rcases List.mem_cons.1 hx with rfl | hx
    · exact h
    · exact hw x hx⟩
theorem Pth.starred {p : NfaD} {a : Nat} (ha : p.states = (a : Int)) (hpm : mvIn a p.moves) (hpf : inN a p.firsts) (hpe : inN a p.ends) {s t : Int} {x : List Nat} (h : Pth (starN p).moves s x t) (ht : t = p.states) :
    (s = p.states → StarL (accP p) x) ∧ (s < p.states → ∃ u v, x = u ++ v ∧ (∃ e ∈ p.ends, Pth p.moves s u e) ∧ StarL (accP p) v) := by
  have hmem : ∀ m ∈ (starN p).moves, m ∈ p.moves ∨ (∃ f ∈ p.firsts, m = (p.states, -1, f)) ∨ ∃ e ∈ p.ends, m = (e, -1, p.states) := fun m hm => by
    simp only [starN, List.mem_append, List.mem_map] at hm
    rcases hm with (hm | ⟨f, hf, rfl⟩) | ⟨e, he, rfl⟩
    · exact .inl hm
    · exact .inr (.inl ⟨f, hf, rfl⟩)
    · exact .inr (.inr ⟨e, he, rfl⟩)
  induction h with
  | here s => exact ⟨fun _ => .nil, fun h => by omega⟩
  | @eps s' t' u w hm _ ih =>
    obtain ⟨i1, i2⟩ := ih ht
    rcases hmem _ hm with hm | ⟨f, hf, e⟩ | ⟨e, he, e'⟩
    · have h1 := hpm _ hm
      simp only at h1
      refine ⟨fun h => by omega, fun _ => ?_⟩
      obtain ⟨x, y, rfl, ⟨e, he, h2⟩, h3⟩ := i2 (by omega)
      exact ⟨x, y, rfl, ⟨e, he, .eps hm h2⟩, h3⟩
    · simp only [Prod.mk.injEq] at e
      obtain ⟨rfl, -, rfl⟩ := e
      have h1 := hpf _ hf
      refine ⟨fun _ => ?_, fun h => by omega⟩
      obtain ⟨x, y, rfl, ⟨e, he, h2⟩, h3⟩ := i2 (by omega)
      exact .cons ⟨_, hf, e, he, h2⟩ h3
    · simp only [Prod.mk.injEq] at e'
      obtain ⟨rfl, -, rfl⟩ := e'
      have h1 := hpe _ he
      exact ⟨fun h => by omega, fun _ => ⟨[], w, rfl, ⟨_, he, .here _⟩, i1 rfl⟩⟩
  | @step s' t' u c w hm _ ih =>
    obtain ⟨i1, i2⟩ := ih ht
    rcases hmem _ hm with hm | ⟨f, hf, e⟩ | ⟨e, he, e'⟩
    · have h1 := hpm _ hm
      simp only at h1
      refine ⟨fun h => by omega, fun _ => ?_⟩
      obtain ⟨x, y, rfl, ⟨e, he, h2⟩, h3⟩ := i2 (by omega)
      exact ⟨c :: x, y, rfl, ⟨e, he, .step hm h2⟩, h3⟩
    · simp only [Prod.mk.injEq] at e
      omega
    · simp only [Prod.mk.injEq] at e'
      omega
theorem star_lang {p : NfaD} {a : Nat} (ha : p.states = (a : Int)) (hpm : mvIn a p.moves) (hpf : inN a p.firsts) (hpe : inN a p.ends) (x : List Nat) : accP (starN p) x ↔ StarL (accP p) x := by
  constructor
  · rintro ⟨f, hf, e, he, h⟩
    simp only [starN, List.mem_singleton] at hf he
    subst hf he
    exact (h.starred ha hpm hpf hpe rfl).1 rfl
  · rintro ⟨ws, rfl, hw⟩
    refine ⟨p.states, by simp [starN], p.states, by simp [starN], ?_⟩
    induction ws with
    | nil => exact .here _
    | cons u ws ih =>
      rw [List.flatten_cons]
      refine Pth.append ?_ (ih fun x hx => hw x (List.mem_cons_of_mem _ hx))
      obtain ⟨f, hf, e, he, h⟩ := hw u (by simp)
      have h1 : Pth (starN p).moves f u e := h.mono fun m hm => by simp [starN, hm]
      have h2 : Pth (starN p).moves p.states [] f := .eps (by simp [starN, hf]) (.here _)
      have h3 : Pth (starN p).moves e [] p.states := .eps (by simp only [starN, List.mem_append, List.mem_map]; exact .inr ⟨e, he, rfl⟩) (.here _)
      have h4 := (h2.append h1).append h3
      rwa [List.nil_append, List.append_nil] at h4
theorem join_lang {p q : NfaD} {a b : Nat} (ha : p.states = (a : Int)) (hpm : mvIn a p.moves) (hqm : mvIn b q.moves) (hpf : inN a p.firsts) (hpe : inN a p.ends) (hqf : inN b q.firsts) (hqe : inN b q.ends) (x : List Nat) : accP (joinN p q) x ↔ ∃ u v, x = u ++ v ∧ accP p u ∧ accP q v := by
  constructor
  · rintro ⟨f, hf, e, he, hw⟩
    obtain ⟨y, hy, rfl⟩ := List.mem_map.1 (show e ∈ q.ends.map (· + p.states) from he)
    have h1 := hpf f hf
    have h2 := hqe y hy
    obtain ⟨k, hk, g, hg, z, hz, h3, h4⟩ := (hw.cross ha hpm hqm hpe hqf (by omega)).1 (by omega)
    rw [show y + p.states - p.states = y by omega] at h4
    exact ⟨x.take k, x.drop k, (List.take_append_drop k x).symm, ⟨f, hf, g, hg, h3⟩, ⟨z, hz, y, hy, h4⟩⟩
  · rintro ⟨u, v, rfl, ⟨f, hf, e, he, h3⟩, ⟨g, hg, d, hd, h4⟩⟩
    refine ⟨f, hf, d + p.states, List.mem_map.2 ⟨d, hd, rfl⟩, ?_⟩
    have h5 : Pth (joinN p q).moves f u e := h3.mono fun m hm => by simp only [joinN, List.mem_append]; exact .inl (.inl hm)
    have h6 : Pth (joinN p q).moves (g + p.states) v (d + p.states) := (h4.up p.states).mono fun m hm => by simp only [joinN, List.mem_append]; exact .inl (.inr hm)
    have h7 : Pth (joinN p q).moves e [] (g + p.states) := .eps (by
      simp only [joinN, List.mem_append, List.mem_flatMap, List.mem_map]
      exact .inr ⟨e, he, g + p.states, List.mem_map.2 ⟨g, hg, rfl⟩, rfl⟩) (.here _)
    have h8 := (h5.append h7).append h6
    rwa [List.append_nil] at h8
theorem nfaOf_accP {d : DfaD} (hd : dfaOk d.next d.ends = true) {w : List Nat} (hw : isW w) : accP (nfaOf d) w ↔ accD d w = true := by
  rw [← nfaOf_acc hd hw, accS_pth (nfaOf_ok hd)]
  rfl
theorem nfaOf_firsts {d : DfaD} (hd : dfaOk d.next d.ends = true) : inN d.next.length (nfaOf d).firsts := fun s hs => by
  have hl := dfaOk_len hd
  have hs : s ∈ [(0 : Int)] := hs
  simp only [List.mem_singleton] at hs
  omega
theorem nfaOf_ends (d : DfaD) : inN d.next.length (nfaOf d).ends := fun s hs => eds_in d _ s hs
def memE : Ex → List Nat → Prop
  | .zero, _ => False
  | .one, w => w = []
  | .ltr c, w => w = [c.val]
  | .join a b, w => ∃ u v, w = u ++ v ∧ memE a u ∧ memE b v
  | .alt a b, w => memE a w ∨ memE b w
  | .both a b, w => memE a w ∧ memE b w
  | .neg a, w => ¬ memE a w
  | .star a, w => StarL (memE a) w
theorem isW_left {u v : List Nat} (h : isW (u ++ v)) : isW u := fun c hc => h c (by simp [hc])
theorem isW_right {u v : List Nat} (h : isW (u ++ v)) : isW v := fun c hc => h c (by simp [hc])
theorem isW_flat {ws : List (List Nat)} (h : isW ws.flatten) : ∀ u ∈ ws, isW u := fun u hu c hc => h c (List.mem_flatten.2 ⟨u, hu, hc⟩)
theorem StarL.congr {L M : List Nat → Prop} (h : ∀ u, isW u → (L u ↔ M u)) {w : List Nat} (hw : isW w) : StarL L w ↔ StarL M w := by
  constructor
  · rintro ⟨ws, rfl, hs⟩
    exact ⟨ws, rfl, fun u hu => (h u (isW_flat hw u hu)).1 (hs u hu)⟩
  · rintro ⟨ws, rfl, hs⟩
    exact ⟨ws, rfl, fun u hu => (h u (isW_flat hw u hu)).2 (hs u hu)⟩
theorem small_acc {d : DfaD} (hd : dfaOk d.next d.ends = true) {w : List Nat} (hw : isW w) : accD (smallD d) w = accD d w := by
  rw [small_min (fine_of hd)]
  exact min_acc (fine_of hd) hw
theorem pair_acc {K : Nat} {f : Bool → Bool → Bool} {a b d : DfaD} (h : pairK K f a b = some d) {w : List Nat} (hw : isW w) : accD d w = f (accD a w) (accD b w) := by
  unfold pairK at h
  split at h
  · rename_i h2
    simp only [Option.some.injEq] at h
    subst h
    unfold metP at h2 ⊢
    rw [accD_num h2 hw]
    have key : ∀ (w : List Nat) (p : Int × Int), w.foldl (stepP a b) p = (runD a p.1 w, runD b p.2 w) := fun w => by
      induction w with
      | nil => intro p; rfl
      | cons c w ih =>
        intro p
        rw [List.foldl_cons, ih]
        rfl
    rw [key]
    rfl
  · cases h
theorem none_acc (w : List Nat) (hw : isW w) : accD noneD w = false := by
  have key : ∀ w, isW w → runD noneD 0 w = 0 := fun w => by
    induction w with
    | nil => intro _; rfl
    | cons c w ih =>
      intro h
      obtain ⟨h1, h2⟩ := isW_cons h
      rw [runD_cons]
      have : dnx noneD 0 c = 0 := by
        have : c = 0 ∨ c = 1 ∨ c = 2 := by omega
        rcases this with rfl | rfl | rfl <;> rfl
      rw [this]
      exact ih h2
  unfold accD
  rw [key w hw]
  rfl
theorem one_acc (w : List Nat) (hw : isW w) : accD oneD w = true ↔ w = [] := by
  have key : ∀ w, isW w → runD oneD 1 w = 1 := fun w => by
    induction w with
    | nil => intro _; rfl
    | cons c w ih =>
      intro h
      obtain ⟨h1, h2⟩ := isW_cons h
      rw [runD_cons]
      have : dnx oneD 1 c = 1 := by
        have : c = 0 ∨ c = 1 ∨ c = 2 := by omega
        rcases this with rfl | rfl | rfl <;> rfl
      rw [this]
      exact ih h2
  cases w with
  | nil => exact ⟨fun _ => rfl, fun _ => rfl⟩
  | cons c w =>
    obtain ⟨h1, h2⟩ := isW_cons hw
    have e : dnx oneD 0 c = 1 := by
      have : c = 0 ∨ c = 1 ∨ c = 2 := by omega
      rcases this with rfl | rfl | rfl <;> rfl
    have : accD oneD (c :: w) = false := by
      unfold accD
      rw [runD_cons, e, key w h2]
      rfl
    rw [this]
    simp
theorem ltr_acc (a : Fin 3) (w : List Nat) (hw : isW w) : accD (ltrD a) w = true ↔ w = [a.val] := by
  have ha : a = 0 ∨ a = 1 ∨ a = 2 := by omega
  have k2 : ∀ w, isW w → runD (ltrD a) 2 w = 2 := fun w => by
    induction w with
    | nil => intro _; rfl
    | cons c w ih =>
      intro h
      obtain ⟨h1, h2⟩ := isW_cons h
      rw [runD_cons]
      have : dnx (ltrD a) 2 c = 2 := by
        have : c = 0 ∨ c = 1 ∨ c = 2 := by omega
        rcases this with rfl | rfl | rfl <;> rcases ha with rfl | rfl | rfl <;> rfl
      rw [this]
      exact ih h2
  have e2 : den (ltrD a) 2 = false := by rcases ha with rfl | rfl | rfl <;> rfl
  have e1 : den (ltrD a) 1 = true := by rcases ha with rfl | rfl | rfl <;> rfl
  have e0 : den (ltrD a) 0 = false := by rcases ha with rfl | rfl | rfl <;> rfl
  cases w with
  | nil =>
    have : accD (ltrD a) [] = false := e0
    rw [this]
    simp
  | cons c w =>
    obtain ⟨h1, h2⟩ := isW_cons hw
    have e : dnx (ltrD a) 0 c = if c = a.val then 1 else 2 := by
      have : c = 0 ∨ c = 1 ∨ c = 2 := by omega
      rcases this with rfl | rfl | rfl <;> rcases ha with rfl | rfl | rfl <;> rfl
    have hr : accD (ltrD a) (c :: w) = den (ltrD a) (runD (ltrD a) (if c = a.val then 1 else 2) w) := by
      unfold accD
      rw [runD_cons, e]
    rw [hr]
    by_cases hc : c = a.val
    · rw [if_pos hc]
      cases w with
      | nil =>
        rw [hc]
        exact ⟨fun _ => rfl, fun _ => e1⟩
      | cons b w =>
        obtain ⟨h3, h4⟩ := isW_cons h2
        have e3 : dnx (ltrD a) 1 b = 2 := by
          have : b = 0 ∨ b = 1 ∨ b = 2 := by omega
          rcases this with rfl | rfl | rfl <;> rcases ha with rfl | rfl | rfl <;> rfl
        rw [runD_cons, e3, k2 w h4, e2]
        simp
    · rw [if_neg hc, k2 w h2, e2]
      simp [hc]
theorem comp_lang {K : Nat} (hK : K = 40) : ∀ (t : Ex) {d : DfaD}, compE K t = some d → ∀ w, isW w → (accD d w = true ↔ memE t w) := by
  intro t
  induction t with
  | zero =>
    intro d h w hw
    simp only [compE, Option.some.injEq] at h
    rw [← h, small_acc noneD_ok hw, none_acc w hw]
    simp [memE]
  | one =>
    intro d h w hw
    simp only [compE, Option.some.injEq] at h
    rw [← h, small_acc oneD_ok hw, one_acc w hw]
    rfl
  | ltr c =>
    intro d h w hw
    simp only [compE, Option.some.injEq] at h
    rw [← h, small_acc (ltrD_ok c) hw, ltr_acc c w hw]
    rfl
  | join a b iha ihb =>
    intro d h w hw
    simp only [compE, Option.bind_eq_some_iff, Option.map_eq_some_iff] at h
    obtain ⟨x, hx, y, hy, z, hz, rfl⟩ := h
    have hxo := compE_ok hK a hx
    have hyo := compE_ok hK b hy
    have hxl := dfaOk_len hxo
    have hyl := dfaOk_len hyo
    rw [small_acc (detM_ok hK hz) hw]
    have h1 : mvIn 81 (wJoin x y).moves := mvIn_M (wJoin_mv hxo hyo) (by omega)
    have h2 : inN 81 (wJoin x y).firsts := fun s hs => by have := wJoin_firsts (b := y) hxo s hs; omega
    have h3 : inN 81 (wJoin x y).ends := fun s hs => by have := wJoin_ends s hs; omega
    rw [detM_acc h1 h2 h3 hz hw, ← join_same,
      join_lang (a := x.next.length) (b := y.next.length) rfl (mvs_in hxo _ (Nat.le_refl _)) (mvs_in hyo _ (Nat.le_refl _)) (nfaOf_firsts hxo) (nfaOf_ends x) (nfaOf_firsts hyo) (nfaOf_ends y)]
    constructor
    · rintro ⟨u, v, rfl, p, q⟩
      exact ⟨u, v, rfl, (iha hx u (isW_left hw)).1 ((nfaOf_accP hxo (isW_left hw)).1 p), (ihb hy v (isW_right hw)).1 ((nfaOf_accP hyo (isW_right hw)).1 q)⟩
    · rintro ⟨u, v, rfl, p, q⟩
      exact ⟨u, v, rfl, (nfaOf_accP hxo (isW_left hw)).2 ((iha hx u (isW_left hw)).2 p), (nfaOf_accP hyo (isW_right hw)).2 ((ihb hy v (isW_right hw)).2 q)⟩
  | alt a b iha ihb =>
    intro d h w hw
    simp only [compE, Option.bind_eq_some_iff, Option.map_eq_some_iff] at h
    obtain ⟨x, hx, y, hy, z, hz, rfl⟩ := h
    rw [small_acc (pairK_ok hK hz) hw, pair_acc hz hw, Bool.or_eq_true, iha hx w hw, ihb hy w hw]
    rfl
  | both a b iha ihb =>
    intro d h w hw
    simp only [compE, Option.bind_eq_some_iff, Option.map_eq_some_iff] at h
    obtain ⟨x, hx, y, hy, z, hz, rfl⟩ := h
    rw [small_acc (pairK_ok hK hz) hw, pair_acc hz hw, Bool.and_eq_true, iha hx w hw, ihb hy w hw]
    rfl
  | neg a iha =>
    intro d h w hw
    simp only [compE, Option.map_eq_some_iff] at h
    obtain ⟨x, hx, rfl⟩ := h
    have hxo := compE_ok hK a hx
    rw [small_acc (negD_ok hxo) hw, neg_flB, flB_acc hxo hw]
    show _ ↔ ¬ memE a w
    rw [← iha hx w hw]
    cases accD x w <;> simp [xb]
  | star a iha =>
    intro d h w hw
    simp only [compE, Option.bind_eq_some_iff, Option.map_eq_some_iff] at h
    obtain ⟨x, hx, z, hz, rfl⟩ := h
    have hxo := compE_ok hK a hx
    have hxl := dfaOk_len hxo
    rw [small_acc (detM_ok hK hz) hw]
    have h1 : mvIn 81 (wStar x).moves := mvIn_M (wStar_mv hxo) (by omega)
    have h2 : inN 81 (wStar x).firsts := fun s hs => by have := wStar_ends (a := x) s hs; omega
    have h3 : inN 81 (wStar x).ends := fun s hs => by have := wStar_ends (a := x) s hs; omega
    rw [detM_acc h1 h2 h3 hz hw, ← star_same,
      star_lang (a := x.next.length) rfl (mvs_in hxo _ (Nat.le_refl _)) (nfaOf_firsts hxo) (nfaOf_ends x)]
    exact StarL.congr (fun u hu => by rw [nfaOf_accP hxo hu, iha hx u hu]) hw
end Go.Proofs.Ytfgpkadhegdffaa
namespace Go.Proofs.Ytfgpkadhegdffaa
theorem starL_rev {L M : List Nat → Prop} (h : ∀ u, L u → M u.reverse) {w : List Nat} (hw : StarL L w) : StarL M w.reverse := by
  obtain ⟨ws, rfl, hs⟩ := hw
  refine ⟨(ws.map List.reverse).reverse, by rw [List.reverse_flatten], fun u hu => ?_⟩
  rw [List.mem_reverse] at hu
  obtain ⟨v, hv, rfl⟩ := List.mem_map.1 hu
  exact h v (hs v hv)
theorem memE_turn : ∀ (t : Ex) (w : List Nat), memE (turnX t) w ↔ memE t w.reverse := by
  intro t
  induction t with
  | join a b ha hb =>
    intro w
    constructor
    · rintro ⟨u, v, rfl, h1, h2⟩
      exact ⟨v.reverse, u.reverse, by rw [List.reverse_append], (ha v).1 h2, (hb u).1 h1⟩
    · rintro ⟨u, v, e, h1, h2⟩
      refine ⟨v.reverse, u.reverse, ?_, (hb _).2 (by rw [List.reverse_reverse]; exact h2), (ha _).2 (by rw [List.reverse_reverse]; exact h1)⟩
      rw [← List.reverse_append, ← e, List.reverse_reverse]
  | alt a b ha hb => intro w; exact or_congr (ha w) (hb w)
  | both a b ha hb => intro w; exact and_congr (ha w) (hb w)
  | neg a ha => intro w; exact not_congr (ha w)
  | star a ha =>
    intro w
    constructor
    · exact fun h => starL_rev (fun u hu => (ha u).1 hu) h
    · intro h
      have := starL_rev (M := memE (turnX a)) (fun u hu => (ha _).2 (by rw [List.reverse_reverse]; exact hu)) h
      rwa [List.reverse_reverse] at this
  | zero => intro w; exact Iff.rfl
  | one =>
    intro w
    show w = [] ↔ w.reverse = []
    simp
  | ltr c =>
    intro w
    show w = [c.val] ↔ w.reverse = [c.val]
    constructor
    · rintro rfl; rfl
    · intro h
      have := congrArg List.reverse h
      rwa [List.reverse_reverse] at this
theorem turn_count {t : Ex} {d g : DfaD} (hd : compE 40 t = some d) (hg : compE 40 (turnX t) = some g) (n : Nat) : cntD d n 0 = cntD g n 0 := by
  have h1 : cntP n (fun w => den d (runD d 0 w)) = cntP n (fun w => (fun v => den g (runD g 0 v)) w.reverse) := cntP_congr n fun w hw _ => by
    have hwr : isW w.reverse := fun c hc => hw c (by simpa using hc)
    have q1 := comp_lang rfl t hd w hw
    have q2 := comp_lang rfl (turnX t) hg w.reverse hwr
    rw [memE_turn, List.reverse_reverse] at q2
    exact Bool.eq_iff_iff.2 (q1.trans q2.symm)
  exact h1.trans (cntP_rev n fun v => den g (runD g 0 v))
end Go.Proofs.Ytfgpkadhegdffaa
namespace Go.Proofs.Ytfgpkadhegdffaa
open Go.RowKit
theorem turnE_comp {es : List (Int × Int)} {o1 o2 : Option DfaD} (h1 : CompO 40 es o1) (h2 : CompO 40 (turnE es) o2) {D1 D2 : DfaD} (q1 : o1 = some D1) (q2 : o2 = some D2) (k : Nat) : cwA D1 (k : Int) = cwA D2 (k : Int) := by
  subst q1
  subst q2
  obtain ⟨hok, t, rfl, ht⟩ | ⟨-, h⟩ := h1
  · have h60 : t.post.length ≤ 60 := (exOk_facts hok).2.2.2
    rw [turnE_tree h60] at h2
    obtain ⟨-, u, hu, hc⟩ | ⟨-, h⟩ := h2
    · rw [post_inj hu] at hc
      have hq := turn_count ht hc k
      have d1 := compE_ok rfl _ ht
      have d2 := compE_ok rfl _ hc
      unfold cwA
      by_cases hk : 0 ≤ (k : Int) ∧ (k : Int) ≤ 30
      · rw [if_pos ⟨d1, hk⟩, if_pos ⟨d2, hk⟩]
        simp only [Int.toNat_natCast]
        rw [hq]
      · rw [if_neg (fun h => hk h.2), if_neg (fun h => hk h.2)]
    · cases h
  · cases h
set_option maxRecDepth 100000 in
set_option maxHeartbeats 16000000 in
theorem turnWords_walk (bs : List Nat) (v : Value) (w : World) (hb : Bytes 0 w v bs) :
    Calls Try.prog 3 #[v] w fun e w' => e = .returned (.bool true) ∧ Below w.heap.size w w' := by
  have HB := Lib.hid hb
  obtain ⟨av, cv, rfl, hcv1, hcv2, -⟩ := hb.form
  clear hb
  by_cases hlen : 1048576 < bs.length
  · have hl2 : (1048576 : Int) < bs.length := by omega
    go_enter Try.func3, Try.ntmps3
    go_wp2
    go_ret
    exact ⟨rfl, Below.refl _ _⟩
  have hl2 : ¬ (1048576 : Int) < bs.length := by omega
  go_enter Try.func3, Try.ntmps3
  go_wp2_with fail
  refine (drawTurnExpr_any bs _ _ HB.out (by omega)).mono ?_
  rintro e w1 ⟨es, v, hel, rfl, hp, hb1⟩
  have HW1 := Lib.hid hb1
  have HP := Lib.hid hp
  clear hp hb1
  go_wp2_with fail
  refine (implTurnExpr_any es _ _ HP.out).mono ?_
  obtain ⟨T, hT⟩ : ∃ T, turnE es = T := ⟨_, rfl⟩
  have hTl := turnE_len es
  rw [hT] at hTl ⊢
  rintro e w2 ⟨aT, cT, rfl, hS⟩
  have HQ := Lib.hid (pairs_of_row (hS.row 0 rfl))
  have HS2 := Lib.hid ((St.start w1).call hS.bel)
  clear hS
  go_wp2_with fail
  refine (specTurnExpr_any es _ _ (by omega) (HP.out.below HS2.out.bel)).mono ?_
  rw [hT]
  rintro e w3 ⟨aU, cU, rfl, hS⟩
  have HU := Lib.hid (pairs_of_row (hS.row 0 rfl))
  have HQ3 := Lib.hid (HQ.out.below hS.bel)
  have HS3 := Lib.hid (HS2.out.call hS.bel)
  clear hS
  go_wp2_with fail
  refine (sameParts_any T _ _ _ (by omega) HQ3.out HU.out).mono ?_
  rintro e w4 ⟨rfl, hb⟩
  have HQ4 := Lib.hid (HQ3.out.below hb)
  have HS4 := Lib.hid (HS3.out.call hb)
  clear hb
  obtain ⟨K, hK⟩ : ∃ K, K = 40 := ⟨40, rfl⟩
  obtain ⟨o1, ho1⟩ := compO_ex K es
  obtain ⟨o2, ho2⟩ := compO_ex K T
  obtain ⟨D1, hD1⟩ : ∃ D, o1.getD zeD = D := ⟨_, rfl⟩
  obtain ⟨g1, hg1⟩ : ∃ g, o1.isSome = g := ⟨_, rfl⟩
  obtain ⟨D2, hD2⟩ : ∃ D, o2.getD zeD = D := ⟨_, rfl⟩
  obtain ⟨g2, hg2⟩ : ∃ g, o2.isSome = g := ⟨_, rfl⟩
  have hC1 := fun (v : Value) (w : World) h => implCompileExpr_any K hK es o1 ho1 v w h
  have hC2 := fun (v : Value) (w : World) h => implCompileExpr_any K hK T o2 ho2 v w h
  rw [hD1, hg1] at hC1
  rw [hD2, hg2] at hC2
  have HK1 := Lib.hid hC1
  have HK2 := Lib.hid hC2
  have hall := fun (h1 : g1 = true) (h2 : g2 = true) (k : Nat) => (show cwA D1 (k : Int) = cwA D2 (k : Int) from by
    subst hK
    rw [← hT] at ho2
    obtain ⟨x1, q1⟩ := Option.isSome_iff_exists.1 (hg1.trans h1)
    obtain ⟨x2, q2⟩ := Option.isSome_iff_exists.1 (hg2.trans h2)
    have e1 : x1 = D1 := by rw [← hD1, q1]; rfl
    have e2 : x2 = D2 := by rw [← hD2, q2]; rfl
    subst e1
    subst e2
    exact turnE_comp ho1 ho2 q1 q2 k)
  have HALL := Lib.hid hall
  clear hall hC1 hC2 hD1 hg1 hD2 hg2 ho1 ho2 hK hT hTl
  go_wp2_with fail
  refine (HK1.out _ _ (HP.out.below HS4.out.bel)).mono ?_
  rintro e w5 ⟨⟨r1a, s1a, r2a, s2a, rfl, hx⟩, hb⟩
  have HS5 := Lib.hid ((HS4.out.call hb).alloc _ rfl #[.slice r1a D1.next.length s1a, .slice r2a D1.ends.length s2a] 30)
  have HXA := Lib.hid (((hx.r).mono (Nat.zero_le _)).below ((Below.refl w5.heap.size w5).alloc (Nat.le_refl _) (.cells #[.slice r1a D1.next.length s1a, .slice r2a D1.ends.length s2a] 30)))
  have HQ5 := Lib.hid ((HQ4.out.below hb).below ((Below.refl w5.heap.size w5).alloc (Nat.le_refl _) (.cells #[.slice r1a D1.next.length s1a, .slice r2a D1.ends.length s2a] 30)))
  clear hx hb
  go_wp2_with fail
  refine (HK2.out _ _ HQ5.out).mono ?_
  rintro e w6 ⟨⟨r1b, s1b, r2b, s2b, rfl, hx⟩, hb⟩
  have HS6 := Lib.hid ((HS5.out.call hb).alloc _ rfl #[.slice r1b D2.next.length s1b, .slice r2b D2.ends.length s2b] 30)
  have HX2 := Lib.hid (((hx.r).mono (Nat.zero_le _)).below ((Below.refl w6.heap.size w6).alloc (Nat.le_refl _) (.cells #[.slice r1b D2.next.length s1b, .slice r2b D2.ends.length s2b] 30)))
  have HX1 := Lib.hid ((HXA.out.below hb).below ((Below.refl w6.heap.size w6).alloc (Nat.le_refl _) (.cells #[.slice r1b D2.next.length s1b, .slice r2b D2.ends.length s2b] 30)))
  have HSL := Lib.hid ((((St.start w).call HW1.out).call HS6.out.bel))
  clear hx hb HXA HQ HQ3 HQ4 HQ5 HU HP HK1 HK2
  cases g1
  · clear HS6 HS5 HX1 HX2
    go_wp2
    go_loopw [9] (fun vi wr => vi = .int .i64 0 ∧ wr = (w6.alloc (.cells #[.slice r1b D2.next.length s1b, .slice r2b D2.ends.length s2b] 30))) (fun vi _ => 1 - (intOf vi).toNat)
    case atStart => exact ⟨rfl, rfl⟩
    case round =>
      obtain ⟨rfl, rfl⟩ := hrel
      go_wp2_with (go_at_call 14; refine (alive_any _).mono ?_; rintro e w' ⟨rfl, rfl⟩)
      go_ret
      exact ⟨rfl, HSL.out.bel⟩
  cases g2
  · clear HS6 HS5 HX1 HX2
    go_wp2
    go_loopw [9] (fun vi wr => vi = .int .i64 0 ∧ wr = (w6.alloc (.cells #[.slice r1b D2.next.length s1b, .slice r2b D2.ends.length s2b] 30))) (fun vi _ => 1 - (intOf vi).toNat)
    case atStart => exact ⟨rfl, rfl⟩
    case round =>
      obtain ⟨rfl, rfl⟩ := hrel
      go_wp2_with (go_at_call 14; refine (alive_any _).mono ?_; rintro e w' ⟨rfl, rfl⟩)
      go_ret
      exact ⟨rfl, HSL.out.bel⟩
  have hr := fun k => HALL.out rfl rfl k
  have HHr := Lib.hid hr
  have HC1 := Lib.hid (fun (u : World) (hu : Below (w6.alloc (.cells #[.slice r1b D2.next.length s1b, .slice r2b D2.ends.length s2b] 30)).heap.size (w6.alloc (.cells #[.slice r1b D2.next.length s1b, .slice r2b D2.ends.length s2b] 30)) u) => And.intro ((bcell hu w5.heap.size 0 (HS6.out.boxlt 0 rfl).2).trans (HS6.out.cell (v := .slice r1a D1.next.length s1a) 0 0 rfl rfl)) ((bcell hu w5.heap.size 1 (HS6.out.boxlt 0 rfl).2).trans (HS6.out.cell (v := .slice r2a D1.ends.length s2a) 0 1 rfl rfl)))
  have HC2 := Lib.hid (fun (u : World) (hu : Below (w6.alloc (.cells #[.slice r1b D2.next.length s1b, .slice r2b D2.ends.length s2b] 30)).heap.size (w6.alloc (.cells #[.slice r1b D2.next.length s1b, .slice r2b D2.ends.length s2b] 30)) u) => And.intro ((bcell hu w6.heap.size 0 (HS6.out.boxlt 1 rfl).2).trans (HS6.out.cell (v := .slice r1b D2.next.length s1b) 1 0 rfl rfl)) ((bcell hu w6.heap.size 1 (HS6.out.boxlt 1 rfl).2).trans (HS6.out.cell (v := .slice r2b D2.ends.length s2b) 1 1 rfl rfl)))
  clear hr HS6 HS5 HALL
  go_wp2
  go_loopw [9] (fun vi wr => ∃ k : Nat, vi = .int .i64 (k : Int) ∧ k ≤ 13 ∧ St (w6.alloc (.cells #[.slice r1b D2.next.length s1b, .slice r2b D2.ends.length s2b] 30)) wr []) (fun vi _ => 13 - (intOf vi).toNat)
  case atStart => exact ⟨0, rfl, Nat.zero_le _, St.start _⟩
  case round =>
    obtain ⟨k, rfl, hk, hSk⟩ := hrel
    have HSk := Lib.hid hSk
    clear hSk
    by_cases hlt : k ≤ 12
    · have hi1 : (k : Int) ≤ 12 := by omega
      have hw1 : IntKind.i64.wrap ((k : Int) + 1) = (k : Int) + 1 := IntWalk.i64_in _ (by omega)
      obtain ⟨r, hrA⟩ : ∃ r, cwA D1 (k : Int) = r := ⟨_, rfl⟩
      have hrB : cwA D2 (k : Int) = r := (HHr.out k).symm.trans hrA
      have HhrA := Lib.hid hrA; clear hrA
      have HhrB := Lib.hid hrB; clear hrB
      go_wp2
      refine wp_region_any (by kernel_rfl) ?_
      refine wpAny_invA (fun A listed a w' => ∃ (l0 l1 l2 l3 l4 l5 l6 : Bool) , listed = #[l0, l1, l2, l3, l4, l5, l6] ∧
          a = ⟨(((((((A.tmps.setIfInBounds 42 (if l0 = true then .agg #[.slice r1a D1.next.length s1a, .slice r2a D1.ends.length s2a] else A.tmps.getD 42 undef)).setIfInBounds 43 (if l1 = true then .int .i64 (k : Int) else A.tmps.getD 43 undef)).setIfInBounds 44 (if l2 = true then .int .i64 r else A.tmps.getD 44 undef)).setIfInBounds 45 (if l3 = true then .agg #[.slice r1b D2.next.length s1b, .slice r2b D2.ends.length s2b] else A.tmps.getD 45 undef)).setIfInBounds 46 (if l4 = true then .int .i64 (k : Int) else A.tmps.getD 46 undef)).setIfInBounds 47 (if l5 = true then .int .i64 r else A.tmps.getD 47 undef)).setIfInBounds 48 (if l6 = true then .bool false else A.tmps.getD 48 undef)), A.defers⟩ ∧
          St (w6.alloc (.cells #[.slice r1b D2.next.length s1b, .slice r2b D2.ends.length s2b] 30)) w' []) ?_ ?_ ?_
      · rintro listed a w' ⟨l0, l1, l2, l3, l4, l5, l6, rfl, rfl, hS⟩ i hi
        obtain ⟨hun, o, ho, hall⟩ := mem_ready.1 hi
        have hlt := (Array.getElem?_eq_some_iff.1 ho).1
        refine wpOp_step ho (fun K hK => ?_)
        clear hi
        have HS := Lib.hid hS
        clear hS
        simp only [List.setIfInBounds_toArray, List.set_cons_zero, List.set_cons_succ, Array.getD_eq_getD_getElem?, List.getElem?_toArray, List.getElem?_cons_zero, List.getElem?_cons_succ, Option.getD_some]
        obtain h | h | h | h | h | h | h : i = 0 ∨ i = 1 ∨ i = 2 ∨ i = 3 ∨ i = 4 ∨ i = 5 ∨ i = 6 := by simp at hlt; omega
        all_goals subst h
        all_goals simp only [List.getElem?_toArray, List.getElem?_cons_zero, List.getElem?_cons_succ, Option.some.injEq] at ho
        all_goals subst ho
        all_goals simp [Region.binds] at hun hall
        · subst hun
          obtain ⟨e0, e1⟩ := HC1.out _ HS.out.bel
          go_simp
          exact hK _ _ ⟨true, l1, l2, l3, l4, l5, l6, rfl, (by simp), HS.out⟩
        · subst hun
          go_simp
          exact hK _ _ ⟨l0, true, l2, l3, l4, l5, l6, rfl, (by simp), HS.out⟩
        · obtain ⟨rfl, rfl⟩ := hall
          subst hun
          go_simp
          go_at_call 13
          refine (implCountWords_any D1 (k : Int) _ _ (HX1.out.below HS.out.bel) r HhrA.out).mono ?_
          rintro e u1 ⟨rfl, hb⟩
          have hS2 := HS.out.call hb
          have HhS2 := Lib.hid hS2; clear hS2
          go_simp
          exact hK _ _ ⟨true, true, true, l3, l4, l5, l6, rfl, (by simp), HhS2.out⟩
        · subst hun
          obtain ⟨e0, e1⟩ := HC2.out _ HS.out.bel
          go_simp
          exact hK _ _ ⟨l0, l1, l2, true, l4, l5, l6, rfl, (by simp), HS.out⟩
        · subst hun
          go_simp
          exact hK _ _ ⟨l0, l1, l2, l3, true, l5, l6, rfl, (by simp), HS.out⟩
        · obtain ⟨rfl, rfl, rfl⟩ := hall
          subst hun
          go_simp
          go_at_call 13
          refine (implCountWords_any D2 (k : Int) _ _ (HX2.out.below HS.out.bel) r HhrB.out).mono ?_
          rintro e u1 ⟨rfl, hb⟩
          have hS2 := HS.out.call hb
          have HhS2 := Lib.hid hS2; clear hS2
          go_simp
          exact hK _ _ ⟨l0, l1, true, true, true, true, l6, rfl, (by simp), HhS2.out⟩
        · obtain ⟨rfl, rfl⟩ := hall
          subst hun
          go_simp
          exact hK _ _ ⟨l0, l1, true, l3, l4, true, true, rfl, (by simp), HS.out⟩
      · rintro listed a w' ⟨l0, l1, l2, l3, l4, l5, l6, rfl, rfl, hS⟩ hr
        have hall := ready_nilM (by kernel_rfl) rfl hr
        obtain rfl : l0 = true := by simpa using hall 0 (by simp)
        obtain rfl : l1 = true := by simpa using hall 1 (by simp)
        obtain rfl : l2 = true := by simpa using hall 2 (by simp)
        obtain rfl : l3 = true := by simpa using hall 3 (by simp)
        obtain rfl : l4 = true := by simpa using hall 4 (by simp)
        obtain rfl : l5 = true := by simpa using hall 5 (by simp)
        obtain rfl : l6 = true := by simpa using hall 6 (by simp)
        clear hall hr 
        simp only [↓reduceIte] at hS ⊢
        simp only [List.setIfInBounds_toArray, List.set_cons_zero, List.set_cons_succ]
        have HSf := Lib.hid hS
        clear hS
        go_wp2
        go_roundw
        case rel => exact ⟨k + 1, by simp, by omega, HSf.out.pick [] (by decide)⟩
        case measure => simp [intOf]; omega
      · refine ⟨false, false, false, false, false, false, false, rfl, (by simp), ?_⟩
        exact HSk.out.drew.pick [] (by decide)
    · have hi1 : ¬ (k : Int) ≤ 12 := by omega
      go_wp2_with (go_at_call 14; refine (alive_any _).mono ?_; rintro e w' ⟨rfl, rfl⟩)
      go_ret
      exact ⟨rfl, (HSL.out.call HSk.out.bel).bel⟩
end Go.Proofs.Ytfgpkadhegdffaa
namespace Go.Proofs.Ytfgpkadhegdffaa
open Go.ChangeShapes Go.WideShapes Go.ChangeAt Go.RowKit Go.Joins
theorem Try.own : ownKnob Try.prog.godebug = none := by kernel_rfl
section
variable {H : Type} {enc : TypeId × Value → H} {W : World}
end
end Go.Proofs.Ytfgpkadhegdffaa
namespace Go.Proofs.Ytfgpkadhegdffaa
open Go.ChangeShapes Go.WideShapes Go.ChangeAt Go.RowKit Go.Joins
theorem Try.cellsByte : Try.prog.cellsOf 5 = 1 := by kernel_rfl
theorem Try.recLBytes : Try.prog.readableRec 22 = true := by kernel_rfl
theorem Try.rowLBytes : (22 : TypeId) < Try.prog.types.size := of_decide_eq_true (by kernel_rfl)
section
variable {H : Type} {enc : TypeId × Value → H} {W : World}
set_option maxRecDepth 100000 in
theorem open_lbytes {held : Bool} {v : Value} {d : DataW H} {p : List MemPlace} (h : DataW.Trod enc Try.prog W 0 (fun _ => true) held 22 v d p) (hv : v.cells.toList = [v]) : ∃ bs, Bytes 0 W v bs := by
  obtain ⟨fuel, hf⟩ := h
  obtain ⟨u, bs, hu, hx⟩ := open_bytes_R Try.underlying22 Try.underlying5 Try.cellsByte hf
  rw [hv] at hu
  simp only [List.cons.injEq, and_true] at hu
  subst hu
  exact ⟨bs, hx⟩
end
end Go.Proofs.Ytfgpkadhegdffaa
