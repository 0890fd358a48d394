/- Sections: the plain side, and the size of a packed form. -/
import Derived.Test.YtchebkpcgglllaaGreatVTx
namespace Go.Proofs.YtchebkpcgglllaaGreat.Cu
open Go Go.SX Go.Proofs.YtchebkpcgglllaaGreat.VT
set_option maxRecDepth 100000
set_option linter.unusedVariables false
set_option linter.unusedSimpArgs false

/-- Bytes, slices of bytes. -/
def kB : Kd Int := kI .u8 0 255
def kBs : Kd (List Int) := kS kB
theorem all2_B {G : Gh} : ∀ {l : List Int} {css : List (List Value)}, All2 (kB.R G) l css → css.flatten = byts l ∧ isB l
  | [], [], _ => ⟨rfl, fun x hx => by simp at hx⟩
  | x :: l, r :: css, h => by
    obtain ⟨h1, h2⟩ := all2_B h.2
    obtain ⟨rfl, h3⟩ := h.1
    refine ⟨by rw [List.flatten_cons, h1]; rfl, fun y hy => ?_⟩
    rcases List.mem_cons.1 hy with rfl | hy
    · exact h3
    · exact h2 y hy
  | [], _ :: _, h => h.elim
  | _ :: _, [], h => h.elim
theorem all2_B' {G : Gh} : ∀ {l : List Int}, isB l → All2 (kB.R G) l (l.map fun x => [Value.int .u8 x])
  | [], _ => trivial
  | x :: l, h => ⟨⟨rfl, h x (by simp)⟩, all2_B' fun y hy => h y (by simp [hy])⟩
theorem flat_B (l : List Int) : (l.map fun x => [Value.int .u8 x]).flatten = byts l := by
  induction l with
  | nil => rfl
  | cons x l ih => rw [List.map_cons, List.flatten_cons, ih]; rfl
theorem kB_S {G : Gh} {A : Option Addr} {c : Nat} {l : List Int} (h : kB.S G A c l) : SlB G A c l ∧ isB l := by
  obtain ⟨css, h1, h2⟩ := h
  obtain ⟨h3, h4⟩ := all2_B h1
  rw [h3] at h2
  exact ⟨h2, h4⟩
theorem S_kB {G : Gh} {A : Option Addr} {c : Nat} {l : List Int} (h : SlB G A c l) (hb : isB l) : kB.S G A c l :=
  ⟨_, all2_B' hb, by rw [flat_B]; exact h⟩
theorem kBs_R {G : Gh} {l : List Int} {cs : List Value} (h : kBs.R G l cs) : ∃ A c, cs = [.slice A l.length c] ∧ SlB G A c l ∧ isB l := by
  obtain ⟨A, c, rfl, h⟩ := h
  exact ⟨A, c, rfl, kB_S h⟩
theorem R_kBs {G : Gh} {A : Option Addr} {c : Nat} {l : List Int} (h : SlB G A c l) (hb : isB l) : kBs.R G l [.slice A l.length c] := ⟨A, c, rfl, S_kB h hb⟩
/-- One cell is loaded. -/
theorem ld1 {G : Gh} {ad : Addr} {v : Value} (h : Gat G ad [v]) : Gcell G ad = some v := h 0 v rfl

def total : List (List Int) → Nat
  | [] => 0
  | c :: cs => c.length + total cs
theorem total_take : ∀ (cs : List (List Int)) (k : Nat) (c : List Int), cs[k]? = some c → total (cs.take (k + 1)) = total (cs.take k) + c.length
  | [], k, c, h => by simp at h
  | d :: cs, 0, c, h => by simp at h; subst h; simp [total]
  | d :: cs, k + 1, c, h => by
    have := total_take cs k c (by simpa using h)
    simp only [List.take_succ_cons, total] at this ⊢
    omega
theorem total_le : ∀ (cs : List (List Int)) (k : Nat), total (cs.take k) ≤ total cs
  | [], k => by simp
  | d :: cs, 0 => by simp [total]
  | d :: cs, k + 1 => by simpa [total] using total_le cs k
theorem total_mem {cs : List (List Int)} {c : List Int} {k : Nat} (h : cs[k]? = some c) : c.length ≤ total cs := by
  have h1 := total_take cs k c h
  have h2 := total_le cs (k + 1)
  omega
def sizeB : List (List Int) → Nat
  | [] => 0
  | c :: cs => 1 + vlen c.length + c.length + sizeB cs
theorem vlen_le (x : Nat) : vlen x ≤ 10 := vput_len_le 9 x
theorem vlen_is (x : Nat) : vlen x = (putB x).length := rfl
theorem sizeB_le : ∀ (cs : List (List Int)), sizeB cs ≤ 11 * cs.length + total cs
  | [] => by simp [sizeB, total]
  | d :: cs => by
    have := sizeB_le cs
    have := vlen_le d.length
    simp only [sizeB, total, List.length_cons]; omega
end Go.Proofs.YtchebkpcgglllaaGreat.Cu
