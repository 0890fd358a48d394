/- The law's own check. -/
import Derived.Test.YtkhajngpcgmpnaaSe4
namespace Go.Proofs.Ytkhajngpcgmpnaa.Cu
open Go Go.SX Go.Proofs.Ytkhajngpcgmpnaa.VT
set_option maxRecDepth 100000
set_option linter.unusedVariables false
set_option linter.unusedSimpArgs false

theorem kB_of {G : Gh} {A : Option Addr} {n c sz : Nat} {xs : List Value} (l : List Int) (h : Sl G A n c sz xs) (h1 : n = l.length) (h2 : sz = 1) (h3 : xs = byts l) (hb : isB l) : kB.S G A c l := S_kB (SlB.of l h h1 h2 h3) hb
theorem kBs_of {G : Gh} {A : Option Addr} {n c sz : Nat} {xs : List Value} (ls : List (List Int)) (h : Sl G A n c sz xs) (h1 : n = ls.length) (h2 : sz = 1) (h3 : kBs.Cs G ls xs) : kBs.S G A c ls := Kd.S.of h h1 h2 h3
theorem cs1 {G : Gh} {l : List Int} {cells : List Value} (h : kBs.R G l cells) : kBs.Cs G [l] cells := ⟨[cells], ⟨h, trivial⟩, by simp⟩
end Go.Proofs.Ytkhajngpcgmpnaa.Cu
