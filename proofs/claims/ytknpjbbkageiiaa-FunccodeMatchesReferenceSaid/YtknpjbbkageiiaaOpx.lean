/- Opx: Op0, Op2 in one text. -/
import Derived.Test.YtknpjbbkageiiaaCub
import Derived.Test.YtknpjbbkageiiaaInx
import Derived.Test.YtknpjbbkageiiaaSXg
namespace Go.Proofs.Ytknpjbbkageiiaa.Cu
open Go Go.SX
set_option maxRecDepth 100000
theorem consE {P : Program} {α β : Type} {f : Field} {fs : List Field} {o n' : Nat} {d : Kd α} {R : Gh → β → List Value → Prop} (o' n : Nat) (hd : Opens P f.type d) (ho : f.offset = o) (hoo : o' = o + d.sz) (hnn : n' = d.sz + n) (hr : OpensF P fs o' n R) :
    OpensF P (f :: fs) o n' (β := α × β) (fun G x cs => ∃ c1 c2, cs = c1 ++ c2 ∧ d.R G x.1 c1 ∧ R G x.2 c2) := by
  subst hoo hnn; exact .cons ho hd hr
theorem wf_i64 (x : Int) (h : (Lit.int .i64 x).wf = true) : -9223372036854775808 ≤ x ∧ x ≤ 9223372036854775807 := by
  simp [Lit.wf, IntKind.min, IntKind.max, IntKind.signed, IntKind.bits] at h
  omega
theorem opens_i {t : TypeId} (hc : Try.prog.cellsOf t = 1) (ht : Try.prog.underlying t = some (.int .i64)) : Opens Try.prog t (kI .i64 (-9223372036854775808) 9223372036854775807) := opens_int hc ht wf_i64
theorem opens_int_ : Opens Try.prog 3 (kI .i64 (-9223372036854775808) 9223372036854775807) := opens_i (by kernel_rfl) Try.underlying3
theorem opens_loc : Opens Try.prog 32 (kI .i64 (-9223372036854775808) 9223372036854775807) := opens_i (by kernel_rfl) Try.underlying32
end Go.Proofs.Ytknpjbbkageiiaa.Cu

namespace Go.Proofs.Ytknpjbbkageiiaa.Cu
open Go Go.SX Go.Proofs.Ytknpjbbkageiiaa.VT
set_option maxRecDepth 100000
def i64s (l : List Int) : List Value := l.map (Value.int .i64)
theorem i64s_one (l : List Int) : ∀ v ∈ i64s l, v.oneCell' = true := by simp [i64s, Value.oneCell']
def kIns : Kd Ins where
  sz := 5
  R _ i cs := cs = i64s i.l ∧ i.ok
  len h := by rw [h.1]; rfl
  one h := by rw [h.1]; exact i64s_one _
  mono _ h := h
def kMac : Kd Mac where
  sz := 7
  R _ i cs := cs = i64s i.l ∧ i.ok
  len h := by rw [h.1]; rfl
  one h := by rw [h.1]; exact i64s_one _
  mono _ h := h
def kTrm : Kd Trm where
  sz := 4
  R _ i cs := cs = i64s i.l ∧ i.ok
  len h := by rw [h.1]; rfl
  one h := by rw [h.1]; exact i64s_one _
  mono _ h := h
theorem opens_int64 : Opens Try.prog 2 (kI .i64 (-9223372036854775808) 9223372036854775807) := opens_i (by kernel_rfl) Try.underlying2
theorem opens_ins : Opens Try.prog 30 kIns := by
  refine opens_struct (by kernel_rfl) Try.underlying30 (consE 1 4 opens_int_ rfl rfl rfl (consE 2 3 opens_int_ rfl rfl rfl (consE 3 2 opens_int_ rfl rfl rfl (consE 4 1 opens_int_ rfl rfl rfl (consE 5 0 opens_int64 rfl rfl rfl (.nil _)))))) ?_
  rintro G ⟨a, b, c, d, e, _⟩ cs ⟨_, _, rfl, ⟨rfl, ha⟩, _, _, rfl, ⟨rfl, hb⟩, _, _, rfl, ⟨rfl, hc⟩, _, _, rfl, ⟨rfl, hd⟩, _, _, rfl, ⟨rfl, he⟩, rfl⟩
  exact ⟨⟨a, b, c, d, e⟩, rfl, ha, hb, hc, hd, he⟩
theorem opens_mac : Opens Try.prog 34 kMac := by
  refine opens_struct (by kernel_rfl) Try.underlying34 (consE 1 6 opens_int_ rfl rfl rfl (consE 2 5 opens_int_ rfl rfl rfl (consE 3 4 opens_int_ rfl rfl rfl (consE 4 3 opens_int_ rfl rfl rfl (consE 5 2 opens_int64 rfl rfl rfl (consE 6 1 opens_loc rfl rfl rfl (consE 7 0 opens_loc rfl rfl rfl (.nil _)))))))) ?_
  rintro G ⟨a, b, c, d, e, f, g, _⟩ cs ⟨_, _, rfl, ⟨rfl, ha⟩, _, _, rfl, ⟨rfl, hb⟩, _, _, rfl, ⟨rfl, hc⟩, _, _, rfl, ⟨rfl, hd⟩, _, _, rfl, ⟨rfl, he⟩, _, _, rfl, ⟨rfl, hf⟩, _, _, rfl, ⟨rfl, hg⟩, rfl⟩
  exact ⟨⟨a, b, c, d, e, f, g⟩, rfl, ha, hb, hc, hd, he, hf, hg⟩
theorem opens_trm : Opens Try.prog 37 kTrm := by
  refine opens_struct (by kernel_rfl) Try.underlying37 (consE 1 3 opens_int_ rfl rfl rfl (consE 2 2 opens_int_ rfl rfl rfl (consE 3 1 opens_int_ rfl rfl rfl (consE 4 0 opens_int_ rfl rfl rfl (.nil _))))) ?_
  rintro G ⟨a, b, c, d, _⟩ cs ⟨_, _, rfl, ⟨rfl, ha⟩, _, _, rfl, ⟨rfl, hb⟩, _, _, rfl, ⟨rfl, hc⟩, _, _, rfl, ⟨rfl, hd⟩, rfl⟩
  exact ⟨⟨a, b, c, d⟩, rfl, ha, hb, hc, hd⟩
end Go.Proofs.Ytknpjbbkageiiaa.Cu
