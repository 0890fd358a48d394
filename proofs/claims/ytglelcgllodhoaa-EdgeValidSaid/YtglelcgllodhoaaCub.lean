/- Cub: Cu5, Cu6, Cu7, CuP, Vd in one text. -/
import Derived.Test.YtglelcgllodhoaaCua
import Derived.Test.YtglelcgllodhoaaSXg
namespace Go.Proofs.Ytglelcgllodhoaa.Cu
open Go Go.SX Go.Proofs.Ytglelcgllodhoaa.VT
set_option maxRecDepth 100000
set_option linter.unusedVariables false

theorem slB_nil (G : Gh) : SlB G none 0 [] := ⟨rfl, Nat.le_refl _, by decide, fun ad h => by simp at h, fun _ => ⟨rfl, rfl⟩, fun v hv => by simp [byts] at hv⟩
/-- The cursor behind Bytes. -/
def cBytes (bs : List Int) (a : Nat) (e n : Int) : List Int × Nat × Int :=
  if e ≠ 0 then ([], a, e) else if n < 0 then ([], a, 32) else if n > ((bs.length - a : Nat) : Int) then ([], a, 1) else ((bs.drop a).take n.toNat, a + n.toNat, 0)
end Go.Proofs.Ytglelcgllodhoaa.Cu

namespace Go.Proofs.Ytglelcgllodhoaa.Cu
open Go Go.SX Go.Proofs.Ytglelcgllodhoaa.VT
set_option maxRecDepth 100000
set_option linter.unusedVariables false

theorem putB_len (x : Nat) : (putB x).length ≤ 10 := vput_len_le 9 x
/-- The reference's comparison. -/
theorem getD_eq {l m : List Int} (hl : l.length = m.length) (h : ∀ i, i < l.length → l.getD i 0 = m.getD i 0) : l = m := by
  refine List.ext_getElem hl fun i h1 h2 => ?_
  have := h i h1
  simpa [List.getD_eq_getElem?_getD, List.getElem?_eq_getElem h1, List.getElem?_eq_getElem h2] using this
end Go.Proofs.Ytglelcgllodhoaa.Cu

namespace Go.Proofs.Ytglelcgllodhoaa.Cu
open Go Go.SX Go.Proofs.Ytglelcgllodhoaa.VT
set_option maxRecDepth 100000
set_option linter.unusedVariables false
set_option linter.unusedSimpArgs false

theorem SlB.of {G : Gh} {A : Option Addr} {n c sz : Nat} {xs : List Value} (l : List Int) (h : Sl G A n c sz xs) (h1 : n = l.length) (h2 : sz = 1) (h3 : xs = byts l) : SlB G A c l := by subst h1 h2 h3; exact h
theorem SlB.to {G G' : Gh} {A : Option Addr} {c : Nat} {l : List Int} (h : SlB G A c l) (hg : Ghe G G') : SlB G' A c l :=
  ⟨h.len, h.cap, h.top, fun ad had j v hj => by
    have := h.there ad had j v hj
    unfold Gcell at this ⊢
    split at this <;> rename_i hx
    · rw [hg _ _ hx]; exact this
    · simp at this, h.nil, h.ones⟩
instance (l : List Int) : Decidable (isB l) := inferInstanceAs (Decidable (∀ x ∈ l, 0 ≤ x ∧ x ≤ 255))
def b1 : List Int := [172, 2, 5]
def b2 : List Int := [2, 0, 0, 0]
theorem b1_is : isB b1 := by decide
theorem b2_is : isB b2 := by decide
end Go.Proofs.Ytglelcgllodhoaa.Cu

namespace Go.Proofs.Ytglelcgllodhoaa.Cu
open Go Go.SX Go.Proofs.Ytglelcgllodhoaa.VT
set_option maxRecDepth 100000
set_option linter.unusedVariables false
set_option linter.unusedSimpArgs false

/-- What is left, and the error. -/
abbrev Ps := List Int × Int
/-- A cursor over bytes that nobody changes. -/
structure CurOK (G : Gh) (A : Option Addr) (c : Nat) (bs : List Int) (p : Ps) : Prop where
  hb : isB bs
  hs : SlB G A c bs
  hl : bs.length ≤ 140737488355328
  suf : p.1 <:+ bs
theorem CurOK.to {G G' : Gh} {A : Option Addr} {c : Nat} {bs : List Int} {p : Ps} (h : CurOK G A c bs p) (hg : Ghe G G') : CurOK G' A c bs p := ⟨h.hb, Sl.to hg h.hs, h.hl, h.suf⟩
theorem CurOK.next {G : Gh} {A : Option Addr} {c : Nat} {bs : List Int} {p q : Ps} (h : CurOK G A c bs p) (hq : q.1 <:+ p.1) : CurOK G A c bs q := ⟨h.hb, h.hs, h.hl, hq.trans h.suf⟩
theorem CurOK.drop {G : Gh} {A : Option Addr} {c : Nat} {bs : List Int} {p : Ps} (h : CurOK G A c bs p) : bs.drop (bs.length - p.1.length) = p.1 := (List.suffix_iff_eq_drop.1 h.suf).symm
theorem CurOK.le {G : Gh} {A : Option Addr} {c : Nat} {bs : List Int} {p : Ps} (h : CurOK G A c bs p) : p.1.length ≤ bs.length := h.suf.length_le
theorem CurOK.isb {G : Gh} {A : Option Addr} {c : Nat} {bs : List Int} {p : Ps} (h : CurOK G A c bs p) : isB p.1 := by rw [← h.drop]; exact isB_drop h.hb _
/-! ### Byte -/
def sByte (p : Ps) : Int × Ps :=
  if p.2 ≠ 0 then (0, p) else match p.1 with
    | [] => (0, ([], 1))
    | x :: l => (x, (l, 0))
theorem sByte_suf (p : Ps) : (sByte p).2.1 <:+ p.1 := by
  unfold sByte
  split
  · exact List.suffix_refl _
  · split
    · rename_i h; rw [h]; exact List.suffix_refl _
    · rename_i x l h; rw [h]; exact List.suffix_cons x l
theorem sByte_err {p : Ps} (h : p.2 ≠ 0) : sByte p = (0, p) := if_pos h
theorem sByte_range {p : Ps} (hb : isB p.1) : 0 ≤ (sByte p).1 ∧ (sByte p).1 ≤ 255 := by
  unfold sByte
  split
  · simp
  · split
    · simp
    · rename_i x l h; exact hb x (by rw [h]; simp)
/-! ### Uint -/
def sUint (most : Int) (p : Ps) : Int × Ps :=
  if p.2 ≠ 0 then (0, p) else if whyU most (vdec 0 p.1) = 0 then ((vdec 0 p.1).1, (p.1.drop (vdec 0 p.1).2.1.toNat, 0)) else (0, (p.1, whyU most (vdec 0 p.1)))
theorem sUint_suf (most : Int) (p : Ps) : (sUint most p).2.1 <:+ p.1 := by
  unfold sUint
  split
  · exact List.suffix_refl _
  · split
    · exact List.drop_suffix _ _
    · exact List.suffix_refl _
theorem sUint_err {most : Int} {p : Ps} (h : p.2 ≠ 0) : sUint most p = (0, p) := if_pos h
theorem sUint_range {most : Int} {p : Ps} (hb : isB p.1) : 0 ≤ (sUint most p).1 ∧ (sUint most p).1 < 18446744073709551616 ∧ (0 ≤ most → (sUint most p).1 ≤ most) := by
  unfold sUint
  rcases vdec_form hb with ⟨x, hx, h⟩ | ⟨n, m, h, h3, h4, h5, _⟩ <;> rw [h] <;> unfold whyU <;> (repeat' split) <;> simp at * <;> omega
def sInt (p : Ps) : Int × Ps := (unzig (sUint 18446744073709551615 p).1, (sUint 18446744073709551615 p).2)
theorem sInt_suf (p : Ps) : (sInt p).2.1 <:+ p.1 := sUint_suf _ _
theorem sInt_err {p : Ps} (h : p.2 ≠ 0) : sInt p = (0, p) := by unfold sInt; rw [sUint_err h]; rfl
/-! ### Count, Bytes -/
def sCount (most size : Int) (p : Ps) : Int × Ps :=
  if p.2 ≠ 0 then (0, p) else if (resC most size p.1).2.2 = 0 then ((resC most size p.1).1, (p.1.drop (resC most size p.1).2.1.toNat, 0)) else (0, (p.1, (resC most size p.1).2.2))
theorem sCount_suf (most size : Int) (p : Ps) : (sCount most size p).2.1 <:+ p.1 := by
  unfold sCount
  split
  · exact List.suffix_refl _
  · split
    · exact List.drop_suffix _ _
    · exact List.suffix_refl _
theorem sCount_err {most size : Int} {p : Ps} (h : p.2 ≠ 0) : sCount most size p = (0, p) := if_pos h
theorem sCount_range {most size : Int} {p : Ps} (hb : isB p.1) (hm : 0 ≤ most) : 0 ≤ (sCount most size p).1 ∧ (sCount most size p).1 ≤ most := by
  unfold sCount
  split
  · simp; omega
  · rcases resC_form hb most size with ⟨x, hx, h⟩ | ⟨n, m, _, _, h, _, h1, _⟩ <;> rw [h]
    · simp [hx]; omega
    · simp; omega
def sBytes (n : Int) (p : Ps) : List Int × Ps :=
  if p.2 ≠ 0 then ([], p) else if n < 0 then ([], (p.1, 32)) else if n > p.1.length then ([], (p.1, 1)) else (p.1.take n.toNat, (p.1.drop n.toNat, 0))
theorem sBytes_suf (n : Int) (p : Ps) : (sBytes n p).2.1 <:+ p.1 := by
  unfold sBytes
  split
  · exact List.suffix_refl _
  · split
    · exact List.suffix_refl _
    · split
      · exact List.suffix_refl _
      · exact List.drop_suffix _ _
theorem sBytes_err {n : Int} {p : Ps} (h : p.2 ≠ 0) : sBytes n p = ([], p) := if_pos h
theorem sBytes_isb {n : Int} {p : Ps} (hb : isB p.1) : isB (sBytes n p).1 := by
  unfold sBytes
  split
  · intro x hx; simp at hx
  · split
    · intro x hx; simp at hx
    · split
      · intro x hx; simp at hx
      · exact isB_take hb _
/-! ### Fail, End, Err, Left -/
def sFail (why : Int) (p : Ps) : Ps := (p.1, failE p.2 why)
theorem sFail_suf (why : Int) (p : Ps) : (sFail why p).1 <:+ p.1 := List.suffix_refl _
def sLeft (p : Ps) : Int := if p.2 = 0 then p.1.length else 0
def sEnd (p : Ps) : Ps := (p.1, if sLeft p > 0 then 2 else p.2)
end Go.Proofs.Ytglelcgllodhoaa.Cu

namespace Go.Proofs.Ytglelcgllodhoaa.Cu
open Go Go.SX Go.Proofs.Ytglelcgllodhoaa.VT
set_option maxRecDepth 100000
set_option linter.unusedVariables false
set_option linter.unusedSimpArgs false

def rowB (l : List Int) : Ob := .row 5 1 l.length (byts l)
theorem byts_app (l m : List Int) : byts (l ++ m) = byts l ++ byts m := by simp [byts]
end Go.Proofs.Ytglelcgllodhoaa.Cu
