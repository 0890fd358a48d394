/- For development alone, never part of a claim: shows a stop's frame and objects. -/
import Derived.Test.YtkhajngpcgmpnaaSXg
namespace Go.SX
structure FrameIs (fr : List SV) (H : List Ob) (G : Gh) (asgd : List Nat) : Prop where
  out : True
structure CallIs (args fr : List SV) (H : List Ob) (G : Gh) : Prop where
  out : True
theorem loop_dbg {P : Program} {E : Env} {body : Code} {fr : List SV} {H : List Ob} {G : Gh} {K : Kont} (h : FrameIs fr H G []) : LoopVC P E body ⟨fr, H, G⟩ K := sorry
theorem call_dbg {P : Program} {E : Env} {f : FuncId} {args fr : List SV} {H : List Ob} {G : Gh} {K : List Nat → SV → St → Prop} (h : CallIs args fr H G) : CallVC P E f args ⟨fr, H, G⟩ K := sorry
theorem fin_dbg {E : Env} {fr : List SV} {H : List Ob} {G : Gh} {sv : SV} {Post : SV → List Ob → Gh → Prop} (h : CallIs [sv] fr H G) : Fin E Post sv ⟨fr, H, G⟩ := sorry
end Go.SX
