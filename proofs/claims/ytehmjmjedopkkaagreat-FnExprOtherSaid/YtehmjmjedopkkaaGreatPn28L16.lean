/-
  The walks over the reference's l16First (for words in exactly one language), FirstDiffer, SameLanguage and MakePairs.
  Conditions: the automata read as such; for the first one they are valid.
-/
import Derived.Test.YtehmjmjedopkkaaGreatPn20Dr
namespace Go.Proofs.YtehmjmjedopkkaaGreat
open Go.RowKit Go.Maps
def Zdd (p:Int × Int):List Int:=[p.1,p.2]
structure L16W (lo hi:Nat) (w:World) (s:Bs (Int × Int)) (vl vw:Value):Prop where
 li:OIntSS 59 3 lo hi w vl (s.met.map Zdd)
 wo:w.ownsRow lo 9 1 vw s.words.length (wdCells s.words)
theorem L16W.below {lo hi:Nat} {w w':World} {s:Bs (Int × Int)} {vl vw:Value} (h:L16W lo hi w s vl vw) (hb:Below w.heap.size w w'):L16W lo hi w' s vl vw :=
 ⟨h.li.below hb,(Own.below (Zaa h.wo) hb).1⟩
theorem L16W.up {lo hi hi':Nat} {w:World} {s:Bs (Int × Int)} {vl vw:Value} (h:L16W lo hi w s vl vw) (hh:hi≤hi'):L16W lo hi' w s vl vw:=⟨h.li.mono (Nat.le_refl _) hh,h.wo⟩
theorem L16W.row {lo hi:Nat} {w:World} {s:Bs (Int × Int)} {vl vw:Value} (h:L16W lo hi w s vl vw) (h0:0<s.met.length):∃ g off cap,vl = .slice (some ⟨g,off,none⟩) s.met.length cap∧s.met.length≤cap∧cap≤9223372036854775807∧g<w.heap.size ∧
  ∀ k,k<s.met.length→∃ rb ro rc,w.cell? ⟨g,off+k,none⟩=some (.slice (some ⟨rb,ro,none⟩) 2 rc)∧2≤rc∧rc≤9223372036854775807∧rb<w.heap.size∧w.cell? ⟨rb,ro,none⟩=some (.int .i64 (s.met.getD k (0,0)).1)∧w.cell? ⟨rb,ro+1,none⟩=some (.int .i64 (s.met.getD k (0,0)).2):=by
 obtain⟨a,cap,hv,h1,h2,h3⟩:=h.li.intSS.form;rw[List.length_map] at hv h1 h3;obtain⟨g,off,rfl,-,hg,hc⟩:=h3 h0;refine⟨g,off,cap,hv,h1,h2,hg,fun k hk => ?_⟩;obtain⟨a',cap',hc1,hl,hm,hr⟩:=hc k hk;have e:(s.met.map Zdd).getD k []=Zdd (s.met.getD k (0,0)):=by simp[hk]
 rw[e] at hc1 hl hr;obtain⟨b',off',rfl,-,hb',hcc⟩:=hr (by simp[Zdd]);exact⟨b',off',cap',hc1,hl,hm,hb',by simpa [Zdd] using hcc 0 (by simp[Zdd]),by simpa [Zdd] using hcc 1 (by simp[Zdd])⟩
end Go.Proofs.YtehmjmjedopkkaaGreat
