/-
  Two automata with choices joined, and either of them: what the reference answers, plain.
  No condition: this text speaks of no program.
-/
import Derived.Test.YtfikabecgaappaaGreatPb06Nb
namespace Go.Proofs.YtfikabecgaappaaGreat
open Go.RowKit
def ZbL (p q:NfaD):NfaD:=⟨(shN q p.states).states,p.moves++(shN q p.states).moves++(p.ends.flatMap fun s=>(shN q p.states).firsts.map fun t=>(s,-1,t)),p.firsts,(shN q p.states).ends⟩
def Zb4 (p q:NfaD):NfaD × Bool:=if Zal p=true∧Zal q=true then limN (ZbL p q) else(zeN,false)
def ZcH (p q:NfaD):NfaD:=⟨(shN q p.states).states,p.moves++(shN q p.states).moves,p.firsts++(shN q p.states).firsts,p.ends++(shN q p.states).ends⟩
def Zbx (p q:NfaD):NfaD × Bool:=if Zal p=true∧Zal q=true then limN (ZcH p q) else(zeN,false)
end Go.Proofs.YtfikabecgaappaaGreat
