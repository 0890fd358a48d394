/- Codecs: a reader and an encoding that belong together. -/
import Derived.Test.YtgdfhpknhcjipaaCuP
namespace Go.Proofs.Ytgdfhpknhcjipaa.Cu
open Go Go.SX Go.Proofs.Ytgdfhpknhcjipaa.VT
set_option maxRecDepth 100000
set_option linter.unusedVariables false
set_option linter.unusedSimpArgs false

/-- A reader and an encoding belong together for the values that are right. -/
structure Cod {α : Type} (sh : Int → Prop) (f : Ps → α × Ps) (enc : α → List Int) (ok : α → Prop) : Prop where
  rt : ∀ x r, ok x → f (enc x ++ r, 0) = (x, (r, 0))
  ca : ∀ l, isB l → (f (l, 0)).2.2 = 0 → ok (f (l, 0)).1 ∧ l = enc (f (l, 0)).1 ++ (f (l, 0)).2.1
  pr : ∀ x n, ok x → n < (enc x).length → sh (f ((enc x).take n, 0)).2.2
  st : ∀ p, p.2 ≠ 0 → (f p).2.2 = p.2
  nz : ∀ e, sh e → e ≠ 0
theorem isB_of_app {l m : List Int} (h : isB (l ++ m)) : isB m := fun x hx => h x (List.mem_append.2 (.inr hx))
/-- One after the other. -/
theorem Cod.seq {α β : Type} {sh : Int → Prop} {f : Ps → α × Ps} {enc : α → List Int} {ok : α → Prop} (hf : Cod sh f enc ok)
    {g : α → Ps → β × Ps} {enc' : α → β → List Int} {ok' : α → β → Prop} (hg : ∀ x, ok x → Cod sh (g x) (enc' x) (ok' x)) (hst : ∀ x p, p.2 ≠ 0 → (g x p).2.2 = p.2) :
    Cod sh (fun p => (((f p).1, (g (f p).1 (f p).2).1), (g (f p).1 (f p).2).2)) (fun x => enc x.1 ++ enc' x.1 x.2) (fun x => ok x.1 ∧ ok' x.1 x.2) where
  rt x r h := by
    obtain ⟨x, y⟩ := x
    dsimp only at h ⊢
    rw [List.append_assoc, hf.rt x _ h.1]
    dsimp only
    rw [(hg x h.1).rt y r h.2]
  ca l hl he := by
    dsimp only at he ⊢
    have h0 : (f (l, 0)).2.2 = 0 := by
      rcases Decidable.em ((f (l, 0)).2.2 = 0) with h | h
      · exact h
      · rw [hst _ _ h] at he; exact he
    obtain ⟨h1, h2⟩ := hf.ca l hl h0
    have hb : isB (f (l, 0)).2.1 := by rw [h2] at hl; exact isB_of_app hl
    have hp : (f (l, 0)).2 = ((f (l, 0)).2.1, 0) := Prod.ext rfl h0
    rw [hp] at he ⊢
    obtain ⟨h3, h4⟩ := (hg _ h1).ca _ hb he
    refine ⟨⟨h1, h3⟩, ?_⟩
    rw [List.append_assoc, ← h4, ← h2]
  pr x n h hn := by
    obtain ⟨x, y⟩ := x
    dsimp only at h hn ⊢
    rcases Nat.lt_or_ge n (enc x).length with h1 | h1
    · rw [List.take_append_of_le_length (by omega)]
      have h2 := hf.pr x n h.1 h1
      rw [hst _ _ (hf.nz _ h2)]
      exact h2
    · rw [List.take_append, List.take_of_length_le h1, hf.rt x _ h.1]
      rw [List.length_append] at hn
      exact (hg x h.1).pr y _ h.2 (by omega)
  st p hp := by
    dsimp only
    have h1 := hf.st p hp
    rw [hst _ _ (by rw [h1]; exact hp), h1]
  nz := hf.nz
/-- The same with other names: what is read counts only without an error. -/
theorem Cod.map {α β : Type} {sh : Int → Prop} {f : Ps → α × Ps} {enc : α → List Int} {ok : α → Prop} (hf : Cod sh f enc ok)
    (F : Ps → β × Ps) (enc' : β → List Int) (ok' : β → Prop) (e : α → β) (inv : β → α)
    (hF : ∀ p, (F p).2 = (f p).2 ∧ ((f p).2.2 = 0 → (F p).1 = e (f p).1))
    (h1 : ∀ y, ok' y → ok (inv y) ∧ e (inv y) = y ∧ enc' y = enc (inv y)) (h2 : ∀ x, ok x → ok' (e x) ∧ enc' (e x) = enc x) :
    Cod sh F enc' ok' where
  rt y r h := by
    obtain ⟨a, b, c⟩ := h1 y h
    have := hf.rt (inv y) r a
    rw [c]
    obtain ⟨d1, d2⟩ := hF (enc (inv y) ++ r, 0)
    rw [this] at d1 d2
    refine Prod.ext ?_ d1
    rw [d2 rfl, b]
  ca l hl he := by
    obtain ⟨d1, d2⟩ := hF (l, 0)
    rw [d1] at he ⊢
    rw [d2 he]
    obtain ⟨a, b⟩ := hf.ca l hl he
    obtain ⟨c1, c2⟩ := h2 _ a
    exact ⟨c1, by rw [c2]; exact b⟩
  pr y n h hn := by
    obtain ⟨a, b, c⟩ := h1 y h
    rw [c] at hn ⊢
    rw [(hF _).1]
    exact hf.pr _ n a hn
  st p hp := by rw [(hF p).1]; exact hf.st p hp
  nz := hf.nz
theorem Cod.map0 {α β : Type} {sh : Int → Prop} {f : Ps → α × Ps} {enc : α → List Int} {ok : α → Prop} (hf : Cod sh f enc ok)
    (F : Ps → β × Ps) (enc' : β → List Int) (ok' : β → Prop) (e : α → β) (inv : β → α)
    (hF : ∀ l, (F (l, 0)).2 = (f (l, 0)).2 ∧ ((f (l, 0)).2.2 = 0 → (F (l, 0)).1 = e (f (l, 0)).1)) (hst : ∀ p, p.2 ≠ 0 → (F p).2.2 = p.2)
    (h1 : ∀ y, ok' y → ok (inv y) ∧ e (inv y) = y ∧ enc' y = enc (inv y)) (h2 : ∀ x, ok x → ok' (e x) ∧ enc' (e x) = enc x) :
    Cod sh F enc' ok' where
  rt y r h := by
    obtain ⟨a, b, c⟩ := h1 y h
    have := hf.rt (inv y) r a
    rw [c]
    obtain ⟨d1, d2⟩ := hF (enc (inv y) ++ r)
    rw [this] at d1 d2
    refine Prod.ext ?_ d1
    rw [d2 rfl, b]
  ca l hl he := by
    obtain ⟨d1, d2⟩ := hF l
    rw [d1] at he ⊢
    rw [d2 he]
    obtain ⟨a, b⟩ := hf.ca l hl he
    obtain ⟨c1, c2⟩ := h2 _ a
    exact ⟨c1, by rw [c2]; exact b⟩
  pr y n h hn := by
    obtain ⟨a, b, c⟩ := h1 y h
    rw [c] at hn ⊢
    rw [(hF _).1]
    exact hf.pr _ n a hn
  st := hst
  nz := hf.nz
/-- What is read is checked again. -/
theorem Cod.chk {α : Type} {sh : Int → Prop} {f : Ps → α × Ps} {enc : α → List Int} {ok : α → Prop} (hf : Cod sh f enc ok) (F : Ps → α × Ps) (good : α → Prop)
    (hF1 : ∀ p, (f p).2.2 ≠ 0 → (F p).2.2 = (f p).2.2)
    (hF2 : ∀ p, (f p).2.2 = 0 → good (f p).1 → F p = f p) (hF3 : ∀ p, (f p).2.2 = 0 → ¬ good (f p).1 → (F p).2.2 ≠ 0) :
    Cod sh F enc (fun x => ok x ∧ good x) where
  rt x r h := by
    have := hf.rt x r h.1
    rw [hF2 _ (by rw [this]) (by rw [this]; exact h.2), this]
  ca l hl he := by
    have h0 : (f (l, 0)).2.2 = 0 := by
      rcases Decidable.em ((f (l, 0)).2.2 = 0) with h | h
      · exact h
      · rw [hF1 _ h] at he; exact he
    have h1 : good (f (l, 0)).1 := by
      rcases Classical.em (good (f (l, 0)).1) with h | h
      · exact h
      · exact absurd he (hF3 _ h0 h)
    rw [hF2 _ h0 h1]
    obtain ⟨a, b⟩ := hf.ca l hl h0
    exact ⟨⟨a, h1⟩, b⟩
  pr x n h hn := by
    have h1 := hf.pr x n h.1 hn
    rw [hF1 _ (hf.nz _ h1)]
    exact h1
  st p hp := by
    have h1 := hf.st p hp
    rw [hF1 _ (by rw [h1]; exact hp), h1]
  nz := hf.nz
theorem Cod.congr {α : Type} {sh : Int → Prop} {f g : Ps → α × Ps} {enc enc' : α → List Int} {ok ok' : α → Prop} (h : Cod sh f enc ok) (h1 : ∀ p, g p = f p) (h2 : ∀ x, ok x → enc' x = enc x) (h3 : ∀ x, ok' x ↔ ok x) : Cod sh g enc' ok' where
  rt x r hx := by rw [h1, h2 x ((h3 x).1 hx)]; exact h.rt x r ((h3 x).1 hx)
  ca l hl he := by
    rw [h1] at he ⊢
    obtain ⟨a, b⟩ := h.ca l hl he
    exact ⟨(h3 _).2 a, by rw [h2 _ a]; exact b⟩
  pr x n hx hn := by
    rw [h2 x ((h3 x).1 hx)] at hn ⊢
    rw [h1]; exact h.pr x n ((h3 x).1 hx) hn
  st p hp := by rw [h1]; exact h.st p hp
  nz := h.nz
/-- Nothing is read. -/
theorem Cod.none {α : Type} {sh : Int → Prop} (hnz : ∀ e, sh e → e ≠ 0) (z : α) : Cod sh (fun p => (z, p)) (fun _ => []) (fun x => x = z) where
  rt x r h := by subst h; rfl
  ca l hl he := ⟨rfl, rfl⟩
  pr x n h hn := by simp at hn
  st p hp := rfl
  nz := hnz
theorem sFail_err {why : Int} {p : Ps} (h : p.2 ≠ 0) : sFail why p = p := by unfold sFail failE; rw [if_neg h]
/-- A byte. -/
theorem Cod.byte {sh : Int → Prop} (h1 : sh 1) (hnz : ∀ e, sh e → e ≠ 0) : Cod sh sByte (fun x => [x]) (fun x => 0 ≤ x ∧ x ≤ 255) where
  rt x r h := by simp [sByte]
  ca l hl he := by
    cases l with
    | nil => simp [sByte] at he
    | cons x l => simp [sByte]; exact hl x (by simp)
  pr x n h hn := by
    have : n = 0 := by simp at hn; omega
    subst this
    simp [sByte, h1]
  st p hp := by rw [sByte_err hp]
  nz := hnz
theorem whyU_ok {most : Int} {n m : Int} (h : n ≤ most) : whyU most (n, m, 0) = 0 := by unfold whyU; rw [if_neg (by simp; omega)]
/-- A number up to a bound. -/
theorem Cod.uint {sh : Int → Prop} (h1 : sh 1) (hnz : ∀ e, sh e → e ≠ 0) (most : Int) : Cod sh (sUint most) (fun x => putB x.toNat) (fun x => 0 ≤ x ∧ x < 18446744073709551616 ∧ x ≤ most) where
  rt x r h := by
    obtain ⟨n, rfl⟩ : ∃ n : Nat, x = (n : Int) := ⟨x.toNat, by omega⟩
    have hv := vdec_put n (by omega) r
    unfold sUint
    rw [if_neg (by simp)]
    simp only [Int.toNat_natCast]
    rw [show vdec 0 (putB n ++ r) = ((n : Int), ((putB n).length : Int), 0) from hv, if_pos (whyU_ok h.2.2)]
    simp
  ca l hl he := by
    unfold sUint at he ⊢
    rw [if_neg (by simp)] at he ⊢
    rcases vdec_form hl with ⟨x, hx, h⟩ | ⟨n, m, h, h3, h4, h5, _, h6⟩
    · rw [h] at he ⊢
      have hw : whyU most (0, 0, x) = x := by unfold whyU; rw [if_neg (by simp; omega)]
      rw [hw] at he
      rw [if_neg (by omega)] at he
      simp at he; omega
    · rw [h] at he ⊢
      rcases Decidable.em ((n : Int) ≤ most) with hm | hm
      · rw [if_pos (whyU_ok hm)]
        dsimp only
        refine ⟨⟨by omega, by omega, hm⟩, ?_⟩
        rw [Int.toNat_natCast, Int.toNat_natCast, show putB n = l.take m from h6.symm, List.take_append_drop]
      · have hw : whyU most ((n : Int), (m : Int), 0) = 6 := by unfold whyU; rw [if_pos ⟨rfl, by dsimp only; omega⟩]
        rw [hw, if_neg (show ¬ (6 : Int) = 0 by decide)] at he
        exact absurd (show (6 : Int) = 0 from he) (by decide)
  pr x n h hn := by
    have hv := vdec_prefix 9 0 x.toNat n (by omega) hn
    unfold sUint
    rw [if_neg (by simp)]
    dsimp only
    rw [show vdec 0 ((putB x.toNat).take n) = (0, 0, 1) from hv, show whyU most (0, 0, 1) = 1 by unfold whyU; rw [if_neg (by simp)], if_neg (by decide)]
    exact h1
  st p hp := by rw [sUint_err hp]
  nz := hnz
theorem Cod.int {sh : Int → Prop} (h1 : sh 1) (hnz : ∀ e, sh e → e ≠ 0) : Cod sh sInt (fun x => putB (zig x).toNat) (fun x => -9223372036854775808 ≤ x ∧ x ≤ 9223372036854775807) :=
  (Cod.uint h1 hnz 18446744073709551615).map sInt _ _ unzig zig (fun p => ⟨rfl, fun _ => rfl⟩)
    (fun y h => ⟨by have := zig_range y h.1 h.2; omega, unzig_zig y, rfl⟩)
    (fun x h => ⟨unzig_range x h.1 h.2.1, by rw [zig_unzig x h.1]⟩)
theorem sFail_ne {why : Int} {p : Ps} (h : why ≠ 0) : (sFail why p).2 ≠ 0 := by
  unfold sFail failE
  dsimp only
  split
  · exact h
  · assumption
end Go.Proofs.Ytgdfhpknhcjipaa.Cu
