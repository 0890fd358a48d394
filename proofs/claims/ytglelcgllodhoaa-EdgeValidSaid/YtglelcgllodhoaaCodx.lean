/- Codx: Cod, CodN, CodL, Re in one text. -/
import Derived.Test.YtglelcgllodhoaaCub
import Derived.Test.YtglelcgllodhoaaNux
namespace Go.Proofs.Ytglelcgllodhoaa.Cu
open Go Go.SX Go.Proofs.Ytglelcgllodhoaa.VT
set_option maxRecDepth 100000
set_option linter.unusedVariables false
set_option linter.unusedSimpArgs false

/-- A reader and an encoding belong together for the values that are right. -/
structure Cod {α : Type} (sh : Int → Prop) (f : Ps → α × Ps) (enc : α → List Int) (ok : α → Prop) : Prop where
  rt : ∀ x r, ok x → f (enc x ++ r, 0) = (x, (r, 0))
  ca : ∀ l, isB l → (f (l, 0)).2.2 = 0 → ok (f (l, 0)).1 ∧ l = enc (f (l, 0)).1 ++ (f (l, 0)).2.1
  pr : ∀ x n, ok x → n < (enc x).length → sh (f ((enc x).take n, 0)).2.2
  st : ∀ p, p.2 ≠ 0 → (f p).2.2 = p.2
  nz : ∀ e, sh e → e ≠ 0
theorem isB_of_app {l m : List Int} (h : isB (l ++ m)) : isB m := fun x hx => h x (List.mem_append.2 (.inr hx))
/-- One after the other. -/
theorem Cod.seq {α β : Type} {sh : Int → Prop} {f : Ps → α × Ps} {enc : α → List Int} {ok : α → Prop} (hf : Cod sh f enc ok)
    {g : α → Ps → β × Ps} {enc' : α → β → List Int} {ok' : α → β → Prop} (hg : ∀ x, ok x → Cod sh (g x) (enc' x) (ok' x)) (hst : ∀ x p, p.2 ≠ 0 → (g x p).2.2 = p.2) :
    Cod sh (fun p => (((f p).1, (g (f p).1 (f p).2).1), (g (f p).1 (f p).2).2)) (fun x => enc x.1 ++ enc' x.1 x.2) (fun x => ok x.1 ∧ ok' x.1 x.2) where
  rt x r h := by
    obtain ⟨x, y⟩ := x
    dsimp only at h ⊢
    rw [List.append_assoc, hf.rt x _ h.1]
    dsimp only
    rw [(hg x h.1).rt y r h.2]
  ca l hl he := by
    dsimp only at he ⊢
    have h0 : (f (l, 0)).2.2 = 0 := by
      rcases Decidable.em ((f (l, 0)).2.2 = 0) with h | h
      · exact h
      · rw [hst _ _ h] at he; exact he
    obtain ⟨h1, h2⟩ := hf.ca l hl h0
    have hb : isB (f (l, 0)).2.1 := by rw [h2] at hl; exact isB_of_app hl
    have hp : (f (l, 0)).2 = ((f (l, 0)).2.1, 0) := Prod.ext rfl h0
    rw [hp] at he ⊢
    obtain ⟨h3, h4⟩ := (hg _ h1).ca _ hb he
    refine ⟨⟨h1, h3⟩, ?_⟩
    rw [List.append_assoc, ← h4, ← h2]
  pr x n h hn := by
    obtain ⟨x, y⟩ := x
    dsimp only at h hn ⊢
    rcases Nat.lt_or_ge n (enc x).length with h1 | h1
    · rw [List.take_append_of_le_length (by omega)]
      have h2 := hf.pr x n h.1 h1
      rw [hst _ _ (hf.nz _ h2)]
      exact h2
    · rw [List.take_append, List.take_of_length_le h1, hf.rt x _ h.1]
      rw [List.length_append] at hn
      exact (hg x h.1).pr y _ h.2 (by omega)
  st p hp := by
    dsimp only
    have h1 := hf.st p hp
    rw [hst _ _ (by rw [h1]; exact hp), h1]
  nz := hf.nz
/-- The same with other names: what is read counts only without an error. -/
theorem Cod.map {α β : Type} {sh : Int → Prop} {f : Ps → α × Ps} {enc : α → List Int} {ok : α → Prop} (hf : Cod sh f enc ok)
    (F : Ps → β × Ps) (enc' : β → List Int) (ok' : β → Prop) (e : α → β) (inv : β → α)
    (hF : ∀ p, (F p).2 = (f p).2 ∧ ((f p).2.2 = 0 → (F p).1 = e (f p).1))
    (h1 : ∀ y, ok' y → ok (inv y) ∧ e (inv y) = y ∧ enc' y = enc (inv y)) (h2 : ∀ x, ok x → ok' (e x) ∧ enc' (e x) = enc x) :
    Cod sh F enc' ok' where
  rt y r h := by
    obtain ⟨a, b, c⟩ := h1 y h
    have := hf.rt (inv y) r a
    rw [c]
    obtain ⟨d1, d2⟩ := hF (enc (inv y) ++ r, 0)
    rw [this] at d1 d2
    refine Prod.ext ?_ d1
    rw [d2 rfl, b]
  ca l hl he := by
    obtain ⟨d1, d2⟩ := hF (l, 0)
    rw [d1] at he ⊢
    rw [d2 he]
    obtain ⟨a, b⟩ := hf.ca l hl he
    obtain ⟨c1, c2⟩ := h2 _ a
    exact ⟨c1, by rw [c2]; exact b⟩
  pr y n h hn := by
    obtain ⟨a, b, c⟩ := h1 y h
    rw [c] at hn ⊢
    rw [(hF _).1]
    exact hf.pr _ n a hn
  st p hp := by rw [(hF p).1]; exact hf.st p hp
  nz := hf.nz
theorem Cod.map0 {α β : Type} {sh : Int → Prop} {f : Ps → α × Ps} {enc : α → List Int} {ok : α → Prop} (hf : Cod sh f enc ok)
    (F : Ps → β × Ps) (enc' : β → List Int) (ok' : β → Prop) (e : α → β) (inv : β → α)
    (hF : ∀ l, (F (l, 0)).2 = (f (l, 0)).2 ∧ ((f (l, 0)).2.2 = 0 → (F (l, 0)).1 = e (f (l, 0)).1)) (hst : ∀ p, p.2 ≠ 0 → (F p).2.2 = p.2)
    (h1 : ∀ y, ok' y → ok (inv y) ∧ e (inv y) = y ∧ enc' y = enc (inv y)) (h2 : ∀ x, ok x → ok' (e x) ∧ enc' (e x) = enc x) :
    Cod sh F enc' ok' where
  rt y r h := by
    obtain ⟨a, b, c⟩ := h1 y h
    have := hf.rt (inv y) r a
    rw [c]
    obtain ⟨d1, d2⟩ := hF (enc (inv y) ++ r)
    rw [this] at d1 d2
    refine Prod.ext ?_ d1
    rw [d2 rfl, b]
  ca l hl he := by
    obtain ⟨d1, d2⟩ := hF l
    rw [d1] at he ⊢
    rw [d2 he]
    obtain ⟨a, b⟩ := hf.ca l hl he
    obtain ⟨c1, c2⟩ := h2 _ a
    exact ⟨c1, by rw [c2]; exact b⟩
  pr y n h hn := by
    obtain ⟨a, b, c⟩ := h1 y h
    rw [c] at hn ⊢
    rw [(hF _).1]
    exact hf.pr _ n a hn
  st := hst
  nz := hf.nz
/-- What is read is checked again. -/
theorem Cod.chk {α : Type} {sh : Int → Prop} {f : Ps → α × Ps} {enc : α → List Int} {ok : α → Prop} (hf : Cod sh f enc ok) (F : Ps → α × Ps) (good : α → Prop)
    (hF1 : ∀ p, (f p).2.2 ≠ 0 → (F p).2.2 = (f p).2.2)
    (hF2 : ∀ p, (f p).2.2 = 0 → good (f p).1 → F p = f p) (hF3 : ∀ p, (f p).2.2 = 0 → ¬ good (f p).1 → (F p).2.2 ≠ 0) :
    Cod sh F enc (fun x => ok x ∧ good x) where
  rt x r h := by
    have := hf.rt x r h.1
    rw [hF2 _ (by rw [this]) (by rw [this]; exact h.2), this]
  ca l hl he := by
    have h0 : (f (l, 0)).2.2 = 0 := by
      rcases Decidable.em ((f (l, 0)).2.2 = 0) with h | h
      · exact h
      · rw [hF1 _ h] at he; exact he
    have h1 : good (f (l, 0)).1 := by
      rcases Classical.em (good (f (l, 0)).1) with h | h
      · exact h
      · exact absurd he (hF3 _ h0 h)
    rw [hF2 _ h0 h1]
    obtain ⟨a, b⟩ := hf.ca l hl h0
    exact ⟨⟨a, h1⟩, b⟩
  pr x n h hn := by
    have h1 := hf.pr x n h.1 hn
    rw [hF1 _ (hf.nz _ h1)]
    exact h1
  st p hp := by
    have h1 := hf.st p hp
    rw [hF1 _ (by rw [h1]; exact hp), h1]
  nz := hf.nz
theorem Cod.congr {α : Type} {sh : Int → Prop} {f g : Ps → α × Ps} {enc enc' : α → List Int} {ok ok' : α → Prop} (h : Cod sh f enc ok) (h1 : ∀ p, g p = f p) (h2 : ∀ x, ok x → enc' x = enc x) (h3 : ∀ x, ok' x ↔ ok x) : Cod sh g enc' ok' where
  rt x r hx := by rw [h1, h2 x ((h3 x).1 hx)]; exact h.rt x r ((h3 x).1 hx)
  ca l hl he := by
    rw [h1] at he ⊢
    obtain ⟨a, b⟩ := h.ca l hl he
    exact ⟨(h3 _).2 a, by rw [h2 _ a]; exact b⟩
  pr x n hx hn := by
    rw [h2 x ((h3 x).1 hx)] at hn ⊢
    rw [h1]; exact h.pr x n ((h3 x).1 hx) hn
  st p hp := by rw [h1]; exact h.st p hp
  nz := h.nz
/-- Nothing is read. -/
theorem Cod.none {α : Type} {sh : Int → Prop} (hnz : ∀ e, sh e → e ≠ 0) (z : α) : Cod sh (fun p => (z, p)) (fun _ => []) (fun x => x = z) where
  rt x r h := by subst h; rfl
  ca l hl he := ⟨rfl, rfl⟩
  pr x n h hn := by simp at hn
  st p hp := rfl
  nz := hnz
theorem sFail_err {why : Int} {p : Ps} (h : p.2 ≠ 0) : sFail why p = p := by unfold sFail failE; rw [if_neg h]
/-- A byte. -/
theorem Cod.byte {sh : Int → Prop} (h1 : sh 1) (hnz : ∀ e, sh e → e ≠ 0) : Cod sh sByte (fun x => [x]) (fun x => 0 ≤ x ∧ x ≤ 255) where
  rt x r h := by simp [sByte]
  ca l hl he := by
    cases l with
    | nil => simp [sByte] at he
    | cons x l => simp [sByte]; exact hl x (by simp)
  pr x n h hn := by
    have : n = 0 := by simp at hn; omega
    subst this
    simp [sByte, h1]
  st p hp := by rw [sByte_err hp]
  nz := hnz
theorem whyU_ok {most : Int} {n m : Int} (h : n ≤ most) : whyU most (n, m, 0) = 0 := by unfold whyU; rw [if_neg (by simp; omega)]
/-- A number up to a bound. -/
theorem Cod.uint {sh : Int → Prop} (h1 : sh 1) (hnz : ∀ e, sh e → e ≠ 0) (most : Int) : Cod sh (sUint most) (fun x => putB x.toNat) (fun x => 0 ≤ x ∧ x < 18446744073709551616 ∧ x ≤ most) where
  rt x r h := by
    obtain ⟨n, rfl⟩ : ∃ n : Nat, x = (n : Int) := ⟨x.toNat, by omega⟩
    have hv := vdec_put n (by omega) r
    unfold sUint
    rw [if_neg (by simp)]
    simp only [Int.toNat_natCast]
    rw [show vdec 0 (putB n ++ r) = ((n : Int), ((putB n).length : Int), 0) from hv, if_pos (whyU_ok h.2.2)]
    simp
  ca l hl he := by
    unfold sUint at he ⊢
    rw [if_neg (by simp)] at he ⊢
    rcases vdec_form hl with ⟨x, hx, h⟩ | ⟨n, m, h, h3, h4, h5, _, h6⟩
    · rw [h] at he ⊢
      have hw : whyU most (0, 0, x) = x := by unfold whyU; rw [if_neg (by simp; omega)]
      rw [hw] at he
      rw [if_neg (by omega)] at he
      simp at he; omega
    · rw [h] at he ⊢
      rcases Decidable.em ((n : Int) ≤ most) with hm | hm
      · rw [if_pos (whyU_ok hm)]
        dsimp only
        refine ⟨⟨by omega, by omega, hm⟩, ?_⟩
        rw [Int.toNat_natCast, Int.toNat_natCast, show putB n = l.take m from h6.symm, List.take_append_drop]
      · have hw : whyU most ((n : Int), (m : Int), 0) = 6 := by unfold whyU; rw [if_pos ⟨rfl, by dsimp only; omega⟩]
        rw [hw, if_neg (show ¬ (6 : Int) = 0 by decide)] at he
        exact absurd (show (6 : Int) = 0 from he) (by decide)
  pr x n h hn := by
    have hv := vdec_prefix 9 0 x.toNat n (by omega) hn
    unfold sUint
    rw [if_neg (by simp)]
    dsimp only
    rw [show vdec 0 ((putB x.toNat).take n) = (0, 0, 1) from hv, show whyU most (0, 0, 1) = 1 by unfold whyU; rw [if_neg (by simp)], if_neg (by decide)]
    exact h1
  st p hp := by rw [sUint_err hp]
  nz := hnz
theorem Cod.int {sh : Int → Prop} (h1 : sh 1) (hnz : ∀ e, sh e → e ≠ 0) : Cod sh sInt (fun x => putB (zig x).toNat) (fun x => -9223372036854775808 ≤ x ∧ x ≤ 9223372036854775807) :=
  (Cod.uint h1 hnz 18446744073709551615).map sInt _ _ unzig zig (fun p => ⟨rfl, fun _ => rfl⟩)
    (fun y h => ⟨by have := zig_range y h.1 h.2; omega, unzig_zig y, rfl⟩)
    (fun x h => ⟨unzig_range x h.1 h.2.1, by rw [zig_unzig x h.1]⟩)
theorem sFail_ne {why : Int} {p : Ps} (h : why ≠ 0) : (sFail why p).2 ≠ 0 := by
  unfold sFail failE
  dsimp only
  split
  · exact h
  · assumption
end Go.Proofs.Ytglelcgllodhoaa.Cu

namespace Go.Proofs.Ytglelcgllodhoaa.Cu
open Go Go.SX Go.Proofs.Ytglelcgllodhoaa.VT
set_option maxRecDepth 100000
set_option linter.unusedVariables false
set_option linter.unusedSimpArgs false

variable {sh : Int → Prop}
theorem Cod.num (h1 : sh 1) (hnz : ∀ e, sh e → e ≠ 0) (bound why : Int) (hb : bound ≤ 9223372036854775808) (hw : why ≠ 0) : Cod sh (sNum bound why) pU (fun x => 0 ≤ x ∧ x < bound) := by
  have hp : ∀ x : Int, 0 ≤ x → x < bound → pU x = putB x.toNat := fun x h h2 => by unfold pU; rw [u64_in (by omega) (by omega)]
  have hz : 0 < bound ∨ bound ≤ 0 := by omega
  refine ((Cod.uint h1 hnz maxU).chk (fun p => if bound ≤ (sUint maxU p).1 then ((sUint maxU p).1, sFail why (sUint maxU p).2) else sUint maxU p) (fun x => x < bound) ?_ ?_ ?_).map _ _ _ id id ?_ ?_ ?_
  · intro p hp
    try dsimp only
    split
    · rw [sFail_err hp]
    · rfl
  · intro p hp hg
    try dsimp only
    rw [if_neg (by omega)]
  · intro p hp hg
    try dsimp only
    rw [if_pos (by omega)]
    exact sFail_ne hw
  · intro p
    unfold sNum
    try dsimp only
    split
    · refine ⟨rfl, fun h => absurd h (sFail_ne hw)⟩
    · exact ⟨rfl, fun _ => rfl⟩
  · intro y h
    exact ⟨⟨⟨h.1, by simp only [id]; omega, by simp only [id]; unfold maxU; omega⟩, h.2⟩, rfl, hp y h.1 h.2⟩
  · intro x h
    exact ⟨⟨h.1.1, h.2⟩, hp x h.1.1 h.2⟩
end Go.Proofs.Ytglelcgllodhoaa.Cu

namespace Go.Proofs.Ytglelcgllodhoaa.Cu
open Go Go.SX Go.Proofs.Ytglelcgllodhoaa.VT
set_option maxRecDepth 100000
set_option linter.unusedVariables false
set_option linter.unusedSimpArgs false

/-- A count that is checked. -/
def cntC (most size why : Int) (good : Int → Bool) (p : Ps) : Int × Ps :=
  ((sCount most size p).1, if good (sCount most size p).1 = true then (sCount most size p).2 else sFail why (sCount most size p).2)
theorem cntC_suf (most size why : Int) (good : Int → Bool) (p : Ps) : (cntC most size why good p).2.1 <:+ p.1 := by
  unfold cntC; split
  · exact sCount_suf _ _ _
  · exact sCount_suf _ _ _
theorem cntC_of {most size why : Int} {good : Int → Bool} {p : Ps} (h : (sCount most size p).2.2 ≠ 0) : (cntC most size why good p).2.2 = (sCount most size p).2.2 := by
  unfold cntC
  dsimp only
  split
  · rfl
  · rw [sFail_err h]
theorem sCount_put {most size : Int} (hm : 0 ≤ most) (hs : 0 < size) (n : Nat) (hn : n < 18446744073709551616) (w : List Int) :
    sCount most size (putB n ++ w, 0) = if (n : Int) ≤ most then (if size * n ≤ w.length then ((n : Int), (w, 0)) else (0, (putB n ++ w, 1))) else (0, (putB n ++ w, 6)) := by
  have hv := vdec_put n hn w
  have hv' : vdec 0 (putB n ++ w) = ((n : Int), ((putB n).length : Int), 0) := hv
  have hdiv : ((n : Int) > (((putB n ++ w).length : Int) - ((putB n).length : Int)) / size) ↔ ¬ size * n ≤ w.length := by
    rw [List.length_append]
    rw [show (((putB n).length + w.length : Nat) : Int) - ((putB n).length : Int) = w.length by omega]
    rw [gt_iff_lt, Int.ediv_lt_iff_lt_mul hs, Int.mul_comm, Int.not_le]
  have hw : whyC most size ((putB n ++ w).length : Int) (vdec 0 (putB n ++ w)) = if (n : Int) ≤ most then (if size * n ≤ w.length then 0 else 1) else 6 := by
    rw [hv']
    unfold whyC
    dsimp only
    rw [if_neg (by decide)]
    by_cases h1 : (n : Int) ≤ most
    · rw [if_neg (by omega), if_pos h1]
      by_cases h2 : size * n ≤ w.length
      · rw [if_pos h2, if_neg (fun h3 => hdiv.1 h3.2 h2)]
      · rw [if_neg h2, if_pos ⟨hs, hdiv.2 h2⟩]
    · rw [if_pos (by omega), if_neg h1]
  unfold sCount resC
  rw [if_neg (show ¬ ((0 : Int) ≠ 0) by decide)]
  dsimp only
  rw [if_neg (show ¬ (most < 0 ∨ size < 0) by omega), hw, hv']
  split
  · split
    · simp
    · rw [if_neg (show ¬ ((1 : Int) = 0) by decide)]; rfl
  · rw [if_neg (show ¬ ((6 : Int) = 0) by decide)]; rfl
theorem sCount_short {most size : Int} (hm : 0 ≤ most) (hs : 0 < size) (n k : Nat) (hk : k < (putB n).length) : sCount most size ((putB n).take k, 0) = (0, ((putB n).take k, 1)) := by
  have hv : vdec 0 ((putB n).take k) = (0, 0, 1) := vdec_prefix 9 0 n k (by omega) hk
  unfold sCount resC
  rw [if_neg (show ¬ ((0 : Int) ≠ 0) by decide)]
  dsimp only
  rw [if_neg (show ¬ (most < 0 ∨ size < 0) by omega), hv]
  have hw : whyC most size (((putB n).take k).length : Int) (0, 0, 1) = 1 := by unfold whyC; rw [if_pos (by decide)]
  rw [hw, if_neg (show ¬ ((1 : Int) = 0) by decide)]
  rfl
theorem sCount_inv {most size : Int} {l : List Int} (hl : isB l) (h : (sCount most size (l, 0)).2.2 = 0) :
    ∃ n : Nat, (sCount most size (l, 0)).1 = n ∧ (n : Int) ≤ most ∧ n < 18446744073709551616 ∧ l = putB n ++ (sCount most size (l, 0)).2.1 := by
  unfold sCount at h ⊢
  rw [if_neg (show ¬ ((0 : Int) ≠ 0) by decide)] at h ⊢
  dsimp only at h ⊢
  rcases resC_form hl most size with ⟨e, he, hr⟩ | ⟨n, m, _, _, hr, hv, hnm, _⟩
  · rw [hr] at h
    dsimp only at h
    rw [if_neg he] at h
    exact absurd h he
  · rw [hr]
    rw [if_pos rfl]
    dsimp only
    rcases vdec_form hl with ⟨e, he, h2⟩ | ⟨n', m', h2, h3, _, _, _, h6⟩
    · rw [hv] at h2
      simp only [Prod.mk.injEq] at h2
      omega
    · rw [hv] at h2
      simp only [Prod.mk.injEq] at h2
      obtain ⟨e1, e2, _⟩ := h2
      have e1' : n = n' := by omega
      have e2' : m = m' := by omega
      subst e1' e2'
      refine ⟨n, rfl, hnm, h3, ?_⟩
      rw [Int.toNat_natCast, show putB n = l.take m from h6.symm, List.take_append_drop]
/-- A count, and so many elements. -/
theorem Cod.cnt {β : Type} {sh : Int → Prop} (h1 : sh 1) (hnz : ∀ e, sh e → e ≠ 0) {most size why : Int} (hm : 0 ≤ most ∧ most < 18446744073709551616) (hs : 0 < size) (hw : why ≠ 0) (good : Int → Bool)
    {g : Int → Ps → β × Ps} {enc' : Int → β → List Int} {ok' : Int → β → Prop} (hg : ∀ n, 0 ≤ n → n ≤ most → good n = true → Cod sh (g n) (enc' n) (ok' n)) (hst : ∀ n p, p.2 ≠ 0 → (g n p).2.2 = p.2)
    (hsz : ∀ n x, ok' n x → size * n ≤ (enc' n x).length) :
    Cod sh (fun p => (((cntC most size why good p).1, (g (cntC most size why good p).1 (cntC most size why good p).2).1), (g (cntC most size why good p).1 (cntC most size why good p).2).2))
      (fun x => putB x.1.toNat ++ enc' x.1 x.2) (fun x => (0 ≤ x.1 ∧ x.1 ≤ most ∧ good x.1 = true) ∧ ok' x.1 x.2) where
  rt x r h := by
    obtain ⟨n, y⟩ := x
    obtain ⟨⟨h2, h3, h4⟩, h5⟩ := h
    dsimp only at h2 h3 h4 h5 ⊢
    obtain ⟨k, rfl⟩ : ∃ k : Nat, n = (k : Int) := ⟨n.toNat, by omega⟩
    have hz := hsz _ _ h5
    have hc : cntC most size why good (putB k ++ (enc' k y ++ r), 0) = ((k : Int), (enc' k y ++ r, 0)) := by
      have := sCount_put (most := most) (size := size) hm.1 hs k (by omega) (enc' k y ++ r)
      rw [if_pos h3, if_pos (by rw [List.length_append]; omega)] at this
      unfold cntC
      rw [this]
      dsimp only
      rw [if_pos h4]
    rw [Int.toNat_natCast, List.append_assoc, hc]
    dsimp only
    rw [(hg k h2 h3 h4).rt y r h5]
  ca l hl he := by
    dsimp only at he ⊢
    have h0 : (cntC most size why good (l, 0)).2.2 = 0 := by
      rcases Decidable.em ((cntC most size why good (l, 0)).2.2 = 0) with h | h
      · exact h
      · rw [hst _ _ h] at he; exact he
    have hgd : good (sCount most size (l, 0)).1 = true := by
      rcases Decidable.em (good (sCount most size (l, 0)).1 = true) with h | h
      · exact h
      · unfold cntC at h0
        dsimp only at h0
        rw [if_neg h] at h0
        exact absurd h0 (sFail_ne hw)
    have hc : cntC most size why good (l, 0) = sCount most size (l, 0) := by
      unfold cntC; rw [if_pos hgd]
    rw [hc] at h0 he ⊢
    obtain ⟨n, h2, h3, h4, h5⟩ := sCount_inv hl h0
    have hb : isB (sCount most size (l, 0)).2.1 := by rw [h5] at hl; exact isB_of_app hl
    have hp : (sCount most size (l, 0)).2 = ((sCount most size (l, 0)).2.1, 0) := Prod.ext rfl h0
    rw [hp] at he ⊢
    rw [h2] at he hgd ⊢
    obtain ⟨h6, h7⟩ := (hg n (by omega) h3 hgd).ca _ hb he
    refine ⟨⟨⟨by omega, h3, hgd⟩, h6⟩, ?_⟩
    rw [Int.toNat_natCast, List.append_assoc, ← h7, ← h5]
  pr x j h hj := by
    obtain ⟨n, y⟩ := x
    obtain ⟨⟨h2, h3, h4⟩, h5⟩ := h
    dsimp only at h2 h3 h4 h5 hj ⊢
    obtain ⟨k, rfl⟩ : ∃ k : Nat, n = (k : Int) := ⟨n.toNat, by omega⟩
    rw [Int.toNat_natCast] at hj ⊢
    rcases Nat.lt_or_ge j (putB k).length with hj1 | hj1
    · rw [List.take_append_of_le_length (by omega)]
      have hc := sCount_short (most := most) (size := size) hm.1 hs k j hj1
      have he : (cntC most size why good ((putB k).take j, 0)).2.2 = 1 := by rw [cntC_of (by rw [hc]; exact Int.one_ne_zero), hc]
      rw [hst _ _ (by rw [he]; exact Int.one_ne_zero), he]
      exact h1
    · rw [List.take_append, List.take_of_length_le hj1]
      rw [List.length_append] at hj
      have hc := sCount_put (most := most) (size := size) hm.1 hs k (by omega) ((enc' k y).take (j - (putB k).length))
      rw [if_pos h3] at hc
      split at hc
      · have hcc : cntC most size why good (putB k ++ (enc' k y).take (j - (putB k).length), 0) = ((k : Int), ((enc' k y).take (j - (putB k).length), 0)) := by
          unfold cntC; rw [hc]; dsimp only; rw [if_pos h4]
        rw [hcc]
        dsimp only
        exact (hg k h2 h3 h4).pr y _ h5 (by omega)
      · have he : (cntC most size why good (putB k ++ (enc' k y).take (j - (putB k).length), 0)).2.2 = 1 := by rw [cntC_of (by rw [hc]; exact Int.one_ne_zero), hc]
        rw [hst _ _ (by rw [he]; exact Int.one_ne_zero), he]
        exact h1
  st p hp := by
    dsimp only
    have h2 : (sCount most size p).2.2 = p.2 := by rw [sCount_err hp]
    have h3 : (cntC most size why good p).2.2 = p.2 := by rw [cntC_of (by rw [h2]; exact hp), h2]
    rw [hst _ _ (by rw [h3]; exact hp), h3]
  nz := hnz

/-! ### one after the other -/
section
variable {σ α : Type}
/-- So many, each with what the ones ahead of it say; none after an error. -/
def rep (f : σ → Ps → α × Ps) (nx : σ → α → σ) : Nat → σ → Ps → List α × Ps
  | 0, s, p => ([], p)
  | n + 1, s, p => if p.2 ≠ 0 then ([], p) else ((f s p).1 :: (rep f nx n (nx s (f s p).1) (f s p).2).1, (rep f nx n (nx s (f s p).1) (f s p).2).2)
def encL (enc : σ → α → List Int) (nx : σ → α → σ) : σ → List α → List Int
  | s, [] => []
  | s, x :: xs => enc s x ++ encL enc nx (nx s x) xs
def okL (ok : σ → α → Prop) (nx : σ → α → σ) : σ → List α → Prop
  | s, [] => True
  | s, x :: xs => ok s x ∧ okL ok nx (nx s x) xs
def foldS (nx : σ → α → σ) : σ → List α → σ
  | s, [] => s
  | s, x :: xs => foldS nx (nx s x) xs
theorem rep_err {f : σ → Ps → α × Ps} {nx : σ → α → σ} {p : Ps} (h : p.2 ≠ 0) : ∀ n s, rep f nx n s p = ([], p)
  | 0, s => rfl
  | n + 1, s => if_pos h
theorem rep_suf {f : σ → Ps → α × Ps} {nx : σ → α → σ} (hf : ∀ s p, (f s p).2.1 <:+ p.1) : ∀ n s p, (rep f nx n s p).2.1 <:+ p.1
  | 0, s, p => List.suffix_refl _
  | n + 1, s, p => by
    unfold rep
    split
    · exact List.suffix_refl _
    · exact (rep_suf hf n _ _).trans (hf s p)
theorem rep_len {f : σ → Ps → α × Ps} {nx : σ → α → σ} : ∀ n s p, (rep f nx n s p).1.length ≤ n
  | 0, s, p => Nat.le_refl _
  | n + 1, s, p => by
    unfold rep
    split
    · exact Nat.zero_le _
    · simpa using rep_len n _ _
/-- One more round. -/
theorem rep_step {f : σ → Ps → α × Ps} {nx : σ → α → σ} {n : Nat} {s : σ} {p : Ps} (h : p.2 = 0) :
    rep f nx (n + 1) s p = ((f s p).1 :: (rep f nx n (nx s (f s p).1) (f s p).2).1, (rep f nx n (nx s (f s p).1) (f s p).2).2) := if_neg (by rw [h]; simp)
theorem rep_full {f : σ → Ps → α × Ps} {nx : σ → α → σ} : ∀ n s p, (rep f nx n s p).2.2 = 0 → (rep f nx n s p).1.length = n
  | 0, s, p, _ => rfl
  | n + 1, s, p, h => by
    by_cases hp : p.2 = 0
    · rw [rep_step hp] at h ⊢
      simpa using rep_full n _ _ h
    · rw [rep_err hp] at h; exact absurd h hp
/-- After k rounds: acc is read, p is left. -/
def Run (f : σ → Ps → α × Ps) (nx : σ → α → σ) (N : Nat) (s0 : σ) (p0 : Ps) (k : Nat) (s : σ) (p : Ps) (acc : List α) : Prop :=
  rep f nx N s0 p0 = (acc ++ (rep f nx (N - k) s p).1, (rep f nx (N - k) s p).2)
theorem Run.start {f : σ → Ps → α × Ps} {nx : σ → α → σ} (N : Nat) (s0 : σ) (p0 : Ps) : Run f nx N s0 p0 0 s0 p0 [] := rfl
theorem Run.next {f : σ → Ps → α × Ps} {nx : σ → α → σ} {N : Nat} {s0 : σ} {p0 : Ps} {k : Nat} {s : σ} {p : Ps} {acc : List α} (h : Run f nx N s0 p0 k s p acc) (hk : k < N) (hp : p.2 = 0)
    {x : α} {p' : Ps} (hf : f s p = (x, p')) (s' : σ) (hs : p'.2 = 0 → s' = nx s x) : Run f nx N s0 p0 (k + 1) s' p' (acc ++ [x]) := by
  unfold Run at h ⊢
  obtain ⟨m, hm⟩ : ∃ m, N - k = m + 1 := ⟨N - k - 1, by omega⟩
  rw [hm, rep_step hp, hf] at h
  rw [show N - (k + 1) = m by omega, h]
  dsimp only
  by_cases hp' : p'.2 = 0
  · rw [hs hp']; simp
  · rw [rep_err hp', rep_err hp']; simp
theorem Run.done {f : σ → Ps → α × Ps} {nx : σ → α → σ} {N : Nat} {s0 : σ} {p0 : Ps} {k : Nat} {s : σ} {p : Ps} {acc : List α} (h : Run f nx N s0 p0 k s p acc) (hd : N ≤ k ∨ p.2 ≠ 0) : rep f nx N s0 p0 = (acc, p) := by
  unfold Run at h
  rcases hd with hd | hd
  · rw [show N - k = 0 by omega] at h; rw [h]; simp [rep]
  · rw [rep_err hd] at h; rw [h]; simp
theorem encL_len {enc : σ → α → List Int} {nx : σ → α → σ} (k : Nat) (h : ∀ s x, k ≤ (enc s x).length) : ∀ s l, k * l.length ≤ (encL enc nx s l).length
  | s, [] => by simp
  | s, x :: xs => by
    have := encL_len (nx := nx) k h (nx s x) xs
    have := h s x
    simp only [encL, List.length_append, List.length_cons, Nat.mul_add]
    omega
theorem Cod.rep {sh : Int → Prop} (hnz : ∀ e, sh e → e ≠ 0) {f : σ → Ps → α × Ps} {nx : σ → α → σ} {enc : σ → α → List Int} {ok : σ → α → Prop} (good : σ → Prop)
    (hf : ∀ s, good s → Cod sh (f s) (enc s) (ok s)) (hst : ∀ s p, p.2 ≠ 0 → (f s p).2.2 = p.2) (hgd : ∀ s x, good s → ok s x → good (nx s x)) : ∀ n s, good s → Cod sh (Cu.rep f nx n s) (encL enc nx s) (fun l => l.length = n ∧ okL ok nx s l)
  | 0, s, hs => (Cod.none hnz ([] : List α)).congr (fun p => rfl) (fun x h => by rw [h]; rfl) (fun x => by
      constructor
      · rintro ⟨h, _⟩; exact List.eq_nil_of_length_eq_zero h
      · rintro rfl; exact ⟨rfl, trivial⟩)
  | n + 1, s, hs => by
    have ih := fun x hx => Cod.rep hnz good hf hst hgd n (nx s x) hx
    have hseq := (hf s hs).seq (g := fun x => Cu.rep f nx n (nx s x)) (fun x hx => ih x (hgd s x hs hx)) (fun x p hp => by rw [rep_err hp])
    refine hseq.map0 _ _ _ (fun x => x.1 :: x.2) (fun l => match l with
      | x :: xs => (x, xs)
      | [] => ((f s ([], 0)).1, [])) ?_ (fun p hp => by rw [rep_err hp]) ?_ ?_
    · intro l
      rw [rep_step rfl]
      exact ⟨rfl, fun _ => rfl⟩
    · rintro (_ | ⟨x, xs⟩) ⟨h1, h2⟩
      · simp at h1
      · exact ⟨⟨h2.1, by simpa using h1, h2.2⟩, rfl, rfl⟩
    · rintro ⟨x, xs⟩ ⟨h1, h2, h3⟩
      exact ⟨⟨by simp [h2], h1, h3⟩, rfl⟩
end
end Go.Proofs.Ytglelcgllodhoaa.Cu

namespace Go.Proofs.Ytglelcgllodhoaa.Cu
open Go Go.SX Go.Proofs.Ytglelcgllodhoaa.VT
set_option maxRecDepth 100000
set_option linter.unusedVariables false
set_option linter.unusedSimpArgs false

theorem sNum_rngB {bound why : Int} {p : Ps} (hb : isB p.1) : 0 ≤ (sNum bound why p).1 ∧ ((sNum bound why p).1 < bound ∨ (sNum bound why p).1 = 0) := by
  have h := sUint_range (most := maxU) hb
  unfold sNum
  split
  · exact ⟨Int.le_refl _, .inr rfl⟩
  · exact ⟨h.1, .inl (by omega)⟩
theorem RIn.errs {G : Gh} {A : Option Addr} {c : Nat} {q r p : Ps} (h : RIn G A c q r) (hq : q.2 ≠ 0) (hp : p.2 = q.2) : RIn G A c p r :=
  ⟨h.hs, h.hb, h.hl, by rw [h.he, hp], fun h0 => absurd (hp ▸ h0) hq⟩
theorem sUint_err0 {most : Int} {p : Ps} (h : (sUint most p).2.2 ≠ 0) : (sUint most p).1 = 0 := by
  unfold sUint at h ⊢
  split
  · rfl
  · rename_i hp
    rw [if_neg hp] at h
    split
    · rename_i hw
      rw [if_pos hw] at h
      exact absurd rfl h
    · rfl
theorem sNum_err0 {bound why : Int} {p : Ps} (h : (sNum bound why p).2.2 ≠ 0) : (sNum bound why p).1 = 0 := by
  unfold sNum at h ⊢
  split
  · rfl
  · rename_i hb
    rw [if_neg hb] at h
    exact sUint_err0 h
/-- A count is a number that so many elements may follow. -/
theorem sCount_num {size : Int} {p : Ps} (hb : isB p.1) (hs : 0 < size) :
    ((sNum 1048577 6 p).2.2 ≠ 0 → (sCount 1048576 size p).1 = 0 ∧ (sCount 1048576 size p).2.2 = (sNum 1048577 6 p).2.2) ∧
    ((sNum 1048577 6 p).2.2 = 0 → sCount 1048576 size p = if (sNum 1048577 6 p).1 > ((sNum 1048577 6 p).2.1.length : Int) / size then (0, sFail 1 p) else sNum 1048577 6 p) := by
  obtain ⟨l, e⟩ := p
  by_cases he : e = 0
  · subst he
    have hn : sNum 1048577 6 (l, 0) = if (1048577 : Int) ≤ (sUint maxU (l, 0)).1 then (0, sFail 6 (sUint maxU (l, 0)).2) else sUint maxU (l, 0) := rfl
    rw [sUint_max' hb] at hn
    rcases vdec_form hb with ⟨x, hx, hv⟩ | ⟨n, m, hv, h3, h4, h5, h6, h7⟩
    · rw [hv] at hn
      dsimp only at hn
      rw [if_neg (show ¬ x = 0 by omega)] at hn
      dsimp only at hn
      rw [if_neg (show ¬ (1048577 : Int) ≤ 0 by decide)] at hn
      have hc : sCount 1048576 size (l, 0) = (0, (l, x)) := by
        unfold sCount resC
        rw [if_neg (show ¬ ((0 : Int) ≠ 0) by decide)]
        dsimp only
        rw [if_neg (show ¬ ((1048576 : Int) < 0 ∨ size < 0) by omega)]
        dsimp only at hv
        have hw : whyC 1048576 size (l.length : Int) (vdec 0 l) = x := by rw [hv]; unfold whyC; rw [if_pos (by dsimp only; omega)]
        rw [hw, if_neg (show ¬ x = 0 by omega)]
        exact if_neg (show ¬ x = 0 by omega)
      rw [hn, hc]
      exact ⟨fun _ => ⟨rfl, rfl⟩, fun h => absurd h (by dsimp only; omega)⟩
    · dsimp only at hv h5
      rw [hv] at hn
      dsimp only at hn
      rw [if_pos rfl] at hn
      have hc : sCount 1048576 size (l, 0) = if whyC 1048576 size (l.length : Int) ((n : Int), (m : Int), 0) = 0 then ((n : Int), (l.drop m, 0)) else (0, (l, whyC 1048576 size (l.length : Int) ((n : Int), (m : Int), 0))) := by
        unfold sCount resC
        rw [if_neg (show ¬ ((0 : Int) ≠ 0) by decide)]
        dsimp only
        rw [if_neg (show ¬ ((1048576 : Int) < 0 ∨ size < 0) by omega), hv]
        by_cases hw : whyC 1048576 size (l.length : Int) ((n : Int), (m : Int), 0) = 0
        · rw [if_pos hw, if_pos hw]
          simp
        · rw [if_neg hw, if_neg hw]
          dsimp only
          rw [if_neg hw]
      by_cases hbig : (1048577 : Int) ≤ n
      · rw [if_pos (by exact hbig)] at hn
        have hw : whyC 1048576 size (l.length : Int) ((n : Int), (m : Int), 0) = 6 := by unfold whyC; dsimp only; rw [if_neg (by decide), if_pos (by omega)]
        rw [hw, if_neg (by decide)] at hc
        rw [hn, hc]
        have h6' : (sFail 6 (l.drop m, 0)).2 = 6 := by unfold sFail failE; rw [if_pos rfl]
        refine ⟨fun _ => ⟨rfl, ?_⟩, fun h => absurd h ?_⟩
        · dsimp only; rw [Int.toNat_natCast, h6']
        · dsimp only; rw [Int.toNat_natCast, h6']; decide
      · rw [if_neg (by exact hbig)] at hn
        rw [Int.toNat_natCast] at hn
        rw [hn, hc]
        dsimp only
        refine ⟨fun h => absurd rfl h, fun _ => ?_⟩
        have hld : ((l.drop m).length : Int) = (l.length : Int) - m := by rw [List.length_drop]; omega
        rw [hld]
        by_cases hg : (n : Int) > ((l.length : Int) - m) / size
        · have hw : whyC 1048576 size (l.length : Int) ((n : Int), (m : Int), 0) = 1 := by unfold whyC; dsimp only; rw [if_neg (by decide), if_neg (by omega), if_pos ⟨hs, hg⟩]
          rw [hw, if_neg (by decide), if_pos hg]
          unfold sFail failE
          rw [if_pos rfl]
        · have hw : whyC 1048576 size (l.length : Int) ((n : Int), (m : Int), 0) = 0 := by unfold whyC; dsimp only; rw [if_neg (by decide), if_neg (by omega), if_neg (fun h => hg h.2)]
          rw [hw, if_pos rfl, if_neg hg]
  · have h1 : sNum 1048577 6 (l, e) = (0, (l, e)) := sNum_err (p := (l, e)) he
    have h2 : sCount 1048576 size (l, e) = (0, (l, e)) := sCount_err (p := (l, e)) he
    rw [h1, h2]
    exact ⟨fun _ => ⟨rfl, rfl⟩, fun h => absurd h he⟩
end Go.Proofs.Ytglelcgllodhoaa.Cu
