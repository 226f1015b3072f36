/-
  The walks over the program's CompileExpr and StateCount, and over the reference's StateCount.
  Condition: the list of parts reads as such.
-/
import Derived.Test.YtalbofnhcpjilaaRows
import Derived.Test.YtalbofnhcpjilaaPk30Jf
import Derived.Test.YtalbofnhcpjilaaPk31Cmp
namespace Go.Proofs.Ytalbofnhcpjilaa
open Go.RowKit
set_option maxRecDepth 100000 in
set_option maxHeartbeats 4000000 in
theorem implCompileExpr_any (K : Nat) (hK : K = 40) (es : List (Int × Int)) (o : Option DfaD) (ho : CompO K es o) (v : Value) (w : World) (h : Pairs 0 w v es) :
    Calls Try.prog 12 #[v] w fun e w' => RTt (o.getD zeD) o.isSome w.heap.size e w' ∧ Below w.heap.size w w' := by
  have H := Lib.hid h
  have HS0 := Lib.hid ((St.start w).alloc _ rfl #[.slice none 0 0, .slice none 0 0] 27)
  clear h
  rcases ho with ⟨hok, t, ht, rfl⟩ | ⟨hok, rfl⟩
  · have hrun : runC K es [] = (compE K t).map fun d => [d] := by rw [← ht]; exact runC_whole hK t
    have hmin : ∀ d, compE K t = some d → minD d = d := fun d h => comp_min hK t h
    obtain ⟨o, ho⟩ : ∃ o, compE K t = o := ⟨_, rfl⟩
    rw [ho] at hrun hmin
    rw [ho]
    have Hc := Lib.hid (show ∀ u : World, Below w.heap.size w u → Calls Try.prog 47 #[v] u fun e w' => RTt (o.getD zeD) o.isSome u.heap.size e w' ∧ Below u.heap.size u w' from fun u hb => implCompileK_any K hK es o hrun hmin v u hok (H.out.below hb))
    obtain ⟨D, hD⟩ : ∃ D, o.getD zeD = D := ⟨_, rfl⟩
    obtain ⟨fb, hfb⟩ : ∃ fb, o.isSome = fb := ⟨_, rfl⟩
    rw [hD, hfb] at Hc
    rw [hD, hfb]
    have Hhok := Lib.hid hok; clear hok
    clear hrun hmin ho ht hD hfb
    go_enter Try.func12, Try.ntmps12
    go_wp2_with fail
    refine (implExprValid_any es v _ (H.out.below HS0.out.bel) _ Hhok.out).mono ?_
    rintro e w1 ⟨rfl, hb1⟩
    have HS1 := Lib.hid (HS0.out.call hb1)
    clear hb1
    go_wp2_with fail
    refine (Hc.out _ HS1.out.bel).mono ?_
    rintro e w2 ⟨⟨a1, c1, a2, c2, rfl, hown⟩, hb2⟩
    have hS5 := HS1.out.call hb2
    have f0 := hS5.fr 0 0 rfl
    have f1 := hS5.fr 0 1 rfl
    have k0 := hS5.cell (v := .slice none 0 0) 0 0 rfl rfl
    have k1 := hS5.cell (v := .slice none 0 0) 0 1 rfl rfl
    have hDM := DMem.of hown HS1.out.size
    have hb0 := hS5.box 0 rfl
    have HS5 := Lib.hid hS5
    have HDM := Lib.hid hDM
    have Hhb0 := Lib.hid hb0; clear hb0
    clear hS5 hown hb2 hDM
    go_wp2
    have hq := (HS5.out.set 0 rfl 0 (.slice a1 D.next.length c1)).set 0 rfl 1 (.slice a2 D.ends.length c2)
    have q0 := hq.cell (v := .slice a1 D.next.length c1) 0 0 rfl rfl
    have q1 := hq.cell (v := .slice a2 D.ends.length c2) 0 1 rfl rfl
    have hm := (HDM.out.set Hhb0.out 0 (.slice a1 D.next.length c1)).set (Hhb0.out.set 0 _) 1 (.slice a2 D.ends.length c2)
    refine bodyPost_ret (v := .tuple #[.agg #[.slice a1 D.next.length c1, .slice a2 D.ends.length c2], .bool fb]) (by simp [results, Try.results12, go_sem, q0, q1]) rfl ⟨?_, hq.bel⟩
    exact ⟨a1, c1, a2, c2, rfl, _, _, rfl, hm.1, hm.2⟩
  · have Hhok := Lib.hid hok; clear hok
    go_enter Try.func12, Try.ntmps12
    go_wp2_with fail
    refine (implExprValid_any es v _ (H.out.below HS0.out.bel) _ Hhok.out).mono ?_
    rintro e w1 ⟨rfl, hb1⟩
    have HS5 := Lib.hid (HS0.out.call hb1)
    clear hb1
    have f0 := HS5.out.fr 0 0 rfl
    have f1 := HS5.out.fr 0 1 rfl
    have k0 := HS5.out.cell (v := .slice none 0 0) 0 0 rfl rfl
    have k1 := HS5.out.cell (v := .slice none 0 0) 0 1 rfl rfl
    go_wp2
    have hq := (HS5.out.set 0 rfl 0 (.slice none 0 0)).set 0 rfl 1 (.slice none 0 0)
    have q0 := hq.cell (v := .slice none 0 0) 0 0 rfl rfl
    have q1 := hq.cell (v := .slice none 0 0) 0 1 rfl rfl
    refine bodyPost_ret (v := .tuple #[.agg #[.slice none 0 0, .slice none 0 0], .bool false]) (by simp [results, Try.results12, go_sem, q0, q1]) rfl ⟨?_, hq.bel⟩
    exact ⟨none, 0, none, 0, rfl, zeD_own _ _ _ _ _⟩
theorem Bx.only {lo hi b : Nat} {w w' : World} {cs : Array Value} {T : TypeId} (h : Bx w b cs T) (ho : Only lo hi w w') (hd : b < lo ∨ hi ≤ b) : Bx w' b cs T := (ho.block b h.lt hd).trans h
theorem DfaO.only {tS tI tB lo hi lo' hi' : Nat} {w w' : World} {v : Value} {d : DfaD} (h : DfaO tS tI tB lo hi w v d) (ho : Only lo' hi' w w') (hd : hi ≤ lo' ∨ hi' ≤ lo) : DfaO tS tI tB lo hi w' v d := by
  obtain ⟨v1, v2, hv, h1, h2⟩ := h
  exact ⟨v1, v2, hv, h1.only ho hd, h2.only ho hd⟩
theorem DfaO.below {tS tI tB lo hi : Nat} {w w' : World} {v : Value} {d : DfaD} (h : DfaO tS tI tB lo hi w v d) (hb : Below w.heap.size w w') : DfaO tS tI tB lo hi w' v d := by
  obtain ⟨v1, v2, hv, h1, h2⟩ := h
  exact ⟨v1, v2, hv, h1.below hb, Own.below h2 hb⟩
end Go.Proofs.Ytalbofnhcpjilaa
namespace Go.Proofs.Ytalbofnhcpjilaa
open Go.RowKit Go.Deep Go.ChangeShapes Go.ChangeAt
section
variable {H : Type} {enc : TypeId × Value → H} {P : Program} {w : World} {held : Bool}
theorem addr_plain {a : Addr} {v : Value} (h : w.cell? (a.add 0) = some v) : ∃ b off, a = ⟨b, off, none⟩ := by
  obtain ⟨b, off, spot⟩ := a
  have hspot : spot = none := by simpa [Addr.add] using World.cell?_spot h
  subst hspot
  exact ⟨b, off, rfl⟩
end
end Go.Proofs.Ytalbofnhcpjilaa
namespace Go.Proofs.Ytalbofnhcpjilaa
open Go.RowKit Go.Deep Go.ChangeShapes Go.ChangeAt
section
variable {H : Type} {enc : TypeId × Value → H} {P : Program} {w : World} {held : Bool}
end
end Go.Proofs.Ytalbofnhcpjilaa
namespace Go.Proofs.Ytalbofnhcpjilaa
open Go.RowKit
end Go.Proofs.Ytalbofnhcpjilaa
namespace Go.Proofs.Ytalbofnhcpjilaa
open Go.ChangeShapes Go.WideShapes Go.ChangeAt Go.RowKit Go.Joins
theorem Try.own : ownKnob Try.prog.godebug = none := by kernel_rfl
section
variable {H : Type} {enc : TypeId × Value → H} {W : World}
end
end Go.Proofs.Ytalbofnhcpjilaa
namespace Go.Proofs.Ytalbofnhcpjilaa
open Go.ChangeShapes Go.WideShapes Go.ChangeAt Go.RowKit Go.Joins
section
variable {H : Type} {enc : TypeId × Value → H} {W : World}
end
end Go.Proofs.Ytalbofnhcpjilaa
