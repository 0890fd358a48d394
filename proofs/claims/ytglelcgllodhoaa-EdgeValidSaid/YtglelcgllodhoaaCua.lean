/- Cua: Cu1, Cu2, Cu3, Cu4 in one text. -/
import Derived.Test.YtglelcgllodhoaaVTx
namespace Go.Proofs.Ytglelcgllodhoaa.Cu
open Go Go.SX Go.Proofs.Ytglelcgllodhoaa.VT
set_option maxRecDepth 100000
set_option linter.unusedVariables false

def failE (e why : Int) : Int := if e = 0 then why else e
def leftN (n : Nat) (a e : Int) : Int := if e = 0 then n - a else 0
/-- A part of a slice of bytes. -/
theorem slB_drop {G : Gh} {A A' : Option Addr} {c : Nat} {bs : List Int} (hs : SlB G A c bs) (a : Nat) (ha : a ≤ bs.length) (hA : A' = if c = a then A else A.map (·.add (a * 1))) : SlB G A' (c - a) (bs.drop a) := by
  have hc := hs.cap
  refine ⟨by simp [byts], by simp; omega, by have := hs.top; omega, fun ad had => ?_, fun hn => ?_, byts_one _⟩
  · have hd : byts (bs.drop a) = (byts bs).drop a := by simp [byts, List.map_drop]
    rw [hd]
    by_cases hca : c = a
    · have : (byts bs).drop a = [] := List.drop_eq_nil_of_le (by rw [byts_length]; omega)
      rw [this]; intro j v hj; simp at hj
    · rw [if_neg hca] at hA
      cases A with
      | none => rw [hA] at had; simp at had
      | some ad0 =>
        rw [hA] at had
        simp at had
        subst had
        by_cases hl : a < (byts bs).length
        · exact (hs.there ad0 rfl).drop_ a hl
        · rw [List.drop_eq_nil_of_le (by omega)]; intro j v hj; simp at hj
  · by_cases hca : c = a
    · rw [if_pos hca] at hA
      have := hs.nil (by rw [← hA]; exact hn)
      simp; omega
    · rw [if_neg hca] at hA
      cases A with
      | none => have := hs.nil rfl; simp; omega
      | some ad0 => rw [hA] at hn; simp at hn
theorem slB_take {G : Gh} {A : Option Addr} {c : Nat} {bs : List Int} (hs : SlB G A c bs) (k : Nat) (hk : k ≤ bs.length) : Sl G A k c 1 (byts (bs.take k)) := by
  have hc := hs.cap
  refine ⟨by simp [byts]; omega, by omega, hs.top, fun ad had => ?_, fun hn => ?_, byts_one _⟩
  · have hd : byts (bs.take k) = (byts bs).take k := by simp [byts, List.map_take]
    rw [hd]; exact (hs.there ad had).take_ k
  · have := hs.nil hn; omega

end Go.Proofs.Ytglelcgllodhoaa.Cu

namespace Go.Proofs.Ytglelcgllodhoaa.Cu
open Go Go.SX Go.Proofs.Ytglelcgllodhoaa.VT
set_option maxRecDepth 100000
set_option linter.unusedVariables false

theorem vdec_form {l : List Int} (hb : isB l) : (∃ e : Int, (e = 1 ∨ e = 3) ∧ vdec 0 l = (0, 0, e)) ∨ (∃ n m : Nat, vdec 0 l = ((n : Int), (m : Int), 0) ∧ n < 18446744073709551616 ∧ 0 < m ∧ m ≤ l.length ∧ m ≤ 10 ∧ l.take m = vput 9 n) := by
  rcases vdec_spec l 0 (by omega) hb with h | ⟨n, m, h1, h2, _, h3, h4, h5, h6⟩
  · exact .inl h
  · exact .inr ⟨n, m, by simpa using h1, by simpa using h2, h3, h4, by omega, by simpa using h6⟩
theorem isB_drop {l : List Int} (h : isB l) (k : Nat) : isB (l.drop k) := fun x hx => h x (List.mem_of_mem_drop hx)
theorem isB_take {l : List Int} (h : isB l) (k : Nat) : isB (l.take k) := fun x hx => h x (List.mem_of_mem_take hx)

/-! ### Uint -/
def whyU (most : Int) (d : Int × Int × Int) : Int := if d.2.2 = 0 ∧ d.1 > most then 6 else d.2.2
/-- The cursor behind Uint: what is read, the offset, the error. -/
def cUint (bs : List Int) (a : Nat) (e : Int) (most : Int) : Int × Nat × Int :=
  if e ≠ 0 then (0, a, e)
  else if whyU most (vdec 0 (bs.drop a)) = 0 then ((vdec 0 (bs.drop a)).1, a + (vdec 0 (bs.drop a)).2.1.toNat, 0)
  else (0, a, whyU most (vdec 0 (bs.drop a)))
end Go.Proofs.Ytglelcgllodhoaa.Cu

namespace Go.Proofs.Ytglelcgllodhoaa.Cu
open Go Go.SX Go.Proofs.Ytglelcgllodhoaa.VT
set_option maxRecDepth 100000
set_option linter.unusedVariables false

def u8O (x : Int) : Ob := .cells 5 [.v (.int .u8 x)]
def intO (x : Int) : Ob := .cells 3 [.v (.int .i64 x)]
/-- The cursor behind Byte. -/
def cByte (bs : List Int) (a : Nat) (e : Int) : Int × Nat × Int :=
  if e ≠ 0 then (0, a, e) else if bs.length = a then (0, a, 1) else (bs.getD a 0, a + 1, 0)
theorem uint_range {bs : List Int} (hb : isB bs) (a : Nat) (e most : Int) : 0 ≤ (cUint bs a e most).1 ∧ (cUint bs a e most).1 < 18446744073709551616 := by
  unfold cUint
  rcases vdec_form (isB_drop hb a) with ⟨x, hx, h⟩ | ⟨n, m, h, h3, h4, h5, _⟩ <;> rw [h] <;> (repeat' split) <;> simp <;> omega
end Go.Proofs.Ytglelcgllodhoaa.Cu

namespace Go.Proofs.Ytglelcgllodhoaa.Cu
open Go Go.SX Go.Proofs.Ytglelcgllodhoaa.VT
set_option maxRecDepth 100000
set_option linter.unusedVariables false

/-- What Count says of a decoded number. -/
def whyC (most size len : Int) (d : Int × Int × Int) : Int :=
  if d.2.2 ≠ 0 then d.2.2 else if d.1 > most then 6 else if size > 0 ∧ d.1 > (len - d.2.1) / size then 1 else 0
def resC (most size : Int) (bs : List Int) : Int × Int × Int :=
  if most < 0 ∨ size < 0 then (0, 0, 32)
  else if whyC most size bs.length (vdec 0 bs) = 0 then ((vdec 0 bs).1, (vdec 0 bs).2.1, 0) else (0, 0, whyC most size bs.length (vdec 0 bs))
/-- The cursor behind Count. -/
def cCount (bs : List Int) (a : Nat) (e : Int) (most size : Int) : Int × Nat × Int :=
  if e ≠ 0 then (0, a, e) else
    ((resC most size (bs.drop a)).1, a + (resC most size (bs.drop a)).2.1.toNat, (resC most size (bs.drop a)).2.2)
theorem resC_form {l : List Int} (hb : isB l) (most size : Int) : (∃ e : Int, e ≠ 0 ∧ resC most size l = (0, 0, e)) ∨
    (∃ n m : Nat, 0 ≤ most ∧ 0 ≤ size ∧ resC most size l = ((n : Int), (m : Int), 0) ∧ vdec 0 l = ((n : Int), (m : Int), 0) ∧ (n : Int) ≤ most ∧ (size > 0 → (n : Int) ≤ ((l.length : Int) - m) / size) ∧ m ≤ l.length ∧ 0 < m) := by
  unfold resC
  by_cases h : most < 0 ∨ size < 0
  · rw [if_pos h]; exact .inl ⟨32, by decide, rfl⟩
  · rw [if_neg h]
    by_cases hw : whyC most size l.length (vdec 0 l) = 0
    · rw [if_pos hw]
      rcases vdec_form hb with ⟨x, hx, h0⟩ | ⟨n, m, h0, h3, h4, h5, _⟩
      · rw [h0] at hw; unfold whyC at hw; rw [if_pos (by simp; omega)] at hw; simp only at hw; omega
      · refine .inr ⟨n, m, by omega, by omega, by rw [h0], h0, ?_, fun hs => ?_, h5, h4⟩ <;>
          (rw [h0] at hw; unfold whyC at hw; rw [if_neg (by simp)] at hw; simp only at hw; split at hw <;> try omega)
    · rw [if_neg hw]; exact .inl ⟨_, hw, rfl⟩
/-! ### Bytes -/
end Go.Proofs.Ytglelcgllodhoaa.Cu
