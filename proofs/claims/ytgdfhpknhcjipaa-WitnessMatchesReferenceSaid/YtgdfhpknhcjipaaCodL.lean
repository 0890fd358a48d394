/- Codecs: a number of elements, and these. -/
import Derived.Test.YtgdfhpknhcjipaaCod
namespace Go.Proofs.Ytgdfhpknhcjipaa.Cu
open Go Go.SX Go.Proofs.Ytgdfhpknhcjipaa.VT
set_option maxRecDepth 100000
set_option linter.unusedVariables false
set_option linter.unusedSimpArgs false

/-- A count that is checked. -/
def cntC (most size why : Int) (good : Int → Bool) (p : Ps) : Int × Ps :=
  ((sCount most size p).1, if good (sCount most size p).1 = true then (sCount most size p).2 else sFail why (sCount most size p).2)
theorem cntC_suf (most size why : Int) (good : Int → Bool) (p : Ps) : (cntC most size why good p).2.1 <:+ p.1 := by
  unfold cntC; split
  · exact sCount_suf _ _ _
  · exact sCount_suf _ _ _
theorem cntC_of {most size why : Int} {good : Int → Bool} {p : Ps} (h : (sCount most size p).2.2 ≠ 0) : (cntC most size why good p).2.2 = (sCount most size p).2.2 := by
  unfold cntC
  dsimp only
  split
  · rfl
  · rw [sFail_err h]
theorem sCount_put {most size : Int} (hm : 0 ≤ most) (hs : 0 < size) (n : Nat) (hn : n < 18446744073709551616) (w : List Int) :
    sCount most size (putB n ++ w, 0) = if (n : Int) ≤ most then (if size * n ≤ w.length then ((n : Int), (w, 0)) else (0, (putB n ++ w, 1))) else (0, (putB n ++ w, 6)) := by
  have hv := vdec_put n hn w
  have hv' : vdec 0 (putB n ++ w) = ((n : Int), ((putB n).length : Int), 0) := hv
  have hdiv : ((n : Int) > (((putB n ++ w).length : Int) - ((putB n).length : Int)) / size) ↔ ¬ size * n ≤ w.length := by
    rw [List.length_append]
    rw [show (((putB n).length + w.length : Nat) : Int) - ((putB n).length : Int) = w.length by omega]
    rw [gt_iff_lt, Int.ediv_lt_iff_lt_mul hs, Int.mul_comm, Int.not_le]
  have hw : whyC most size ((putB n ++ w).length : Int) (vdec 0 (putB n ++ w)) = if (n : Int) ≤ most then (if size * n ≤ w.length then 0 else 1) else 6 := by
    rw [hv']
    unfold whyC
    dsimp only
    rw [if_neg (by decide)]
    by_cases h1 : (n : Int) ≤ most
    · rw [if_neg (by omega), if_pos h1]
      by_cases h2 : size * n ≤ w.length
      · rw [if_pos h2, if_neg (fun h3 => hdiv.1 h3.2 h2)]
      · rw [if_neg h2, if_pos ⟨hs, hdiv.2 h2⟩]
    · rw [if_pos (by omega), if_neg h1]
  unfold sCount resC
  rw [if_neg (show ¬ ((0 : Int) ≠ 0) by decide)]
  dsimp only
  rw [if_neg (show ¬ (most < 0 ∨ size < 0) by omega), hw, hv']
  split
  · split
    · simp
    · rw [if_neg (show ¬ ((1 : Int) = 0) by decide)]; rfl
  · rw [if_neg (show ¬ ((6 : Int) = 0) by decide)]; rfl
theorem sCount_short {most size : Int} (hm : 0 ≤ most) (hs : 0 < size) (n k : Nat) (hk : k < (putB n).length) : sCount most size ((putB n).take k, 0) = (0, ((putB n).take k, 1)) := by
  have hv : vdec 0 ((putB n).take k) = (0, 0, 1) := vdec_prefix 9 0 n k (by omega) hk
  unfold sCount resC
  rw [if_neg (show ¬ ((0 : Int) ≠ 0) by decide)]
  dsimp only
  rw [if_neg (show ¬ (most < 0 ∨ size < 0) by omega), hv]
  have hw : whyC most size (((putB n).take k).length : Int) (0, 0, 1) = 1 := by unfold whyC; rw [if_pos (by decide)]
  rw [hw, if_neg (show ¬ ((1 : Int) = 0) by decide)]
  rfl
theorem sCount_inv {most size : Int} {l : List Int} (hl : isB l) (h : (sCount most size (l, 0)).2.2 = 0) :
    ∃ n : Nat, (sCount most size (l, 0)).1 = n ∧ (n : Int) ≤ most ∧ n < 18446744073709551616 ∧ l = putB n ++ (sCount most size (l, 0)).2.1 := by
  unfold sCount at h ⊢
  rw [if_neg (show ¬ ((0 : Int) ≠ 0) by decide)] at h ⊢
  dsimp only at h ⊢
  rcases resC_form hl most size with ⟨e, he, hr⟩ | ⟨n, m, _, _, hr, hv, hnm, _⟩
  · rw [hr] at h
    dsimp only at h
    rw [if_neg he] at h
    exact absurd h he
  · rw [hr]
    rw [if_pos rfl]
    dsimp only
    rcases vdec_form hl with ⟨e, he, h2⟩ | ⟨n', m', h2, h3, _, _, _, h6⟩
    · rw [hv] at h2
      simp only [Prod.mk.injEq] at h2
      omega
    · rw [hv] at h2
      simp only [Prod.mk.injEq] at h2
      obtain ⟨e1, e2, _⟩ := h2
      have e1' : n = n' := by omega
      have e2' : m = m' := by omega
      subst e1' e2'
      refine ⟨n, rfl, hnm, h3, ?_⟩
      rw [Int.toNat_natCast, show putB n = l.take m from h6.symm, List.take_append_drop]
/-- A count, and so many elements. -/
theorem Cod.cnt {β : Type} {sh : Int → Prop} (h1 : sh 1) (hnz : ∀ e, sh e → e ≠ 0) {most size why : Int} (hm : 0 ≤ most ∧ most < 18446744073709551616) (hs : 0 < size) (hw : why ≠ 0) (good : Int → Bool)
    {g : Int → Ps → β × Ps} {enc' : Int → β → List Int} {ok' : Int → β → Prop} (hg : ∀ n, 0 ≤ n → n ≤ most → good n = true → Cod sh (g n) (enc' n) (ok' n)) (hst : ∀ n p, p.2 ≠ 0 → (g n p).2.2 = p.2)
    (hsz : ∀ n x, ok' n x → size * n ≤ (enc' n x).length) :
    Cod sh (fun p => (((cntC most size why good p).1, (g (cntC most size why good p).1 (cntC most size why good p).2).1), (g (cntC most size why good p).1 (cntC most size why good p).2).2))
      (fun x => putB x.1.toNat ++ enc' x.1 x.2) (fun x => (0 ≤ x.1 ∧ x.1 ≤ most ∧ good x.1 = true) ∧ ok' x.1 x.2) where
  rt x r h := by
    obtain ⟨n, y⟩ := x
    obtain ⟨⟨h2, h3, h4⟩, h5⟩ := h
    dsimp only at h2 h3 h4 h5 ⊢
    obtain ⟨k, rfl⟩ : ∃ k : Nat, n = (k : Int) := ⟨n.toNat, by omega⟩
    have hz := hsz _ _ h5
    have hc : cntC most size why good (putB k ++ (enc' k y ++ r), 0) = ((k : Int), (enc' k y ++ r, 0)) := by
      have := sCount_put (most := most) (size := size) hm.1 hs k (by omega) (enc' k y ++ r)
      rw [if_pos h3, if_pos (by rw [List.length_append]; omega)] at this
      unfold cntC
      rw [this]
      dsimp only
      rw [if_pos h4]
    rw [Int.toNat_natCast, List.append_assoc, hc]
    dsimp only
    rw [(hg k h2 h3 h4).rt y r h5]
  ca l hl he := by
    dsimp only at he ⊢
    have h0 : (cntC most size why good (l, 0)).2.2 = 0 := by
      rcases Decidable.em ((cntC most size why good (l, 0)).2.2 = 0) with h | h
      · exact h
      · rw [hst _ _ h] at he; exact he
    have hgd : good (sCount most size (l, 0)).1 = true := by
      rcases Decidable.em (good (sCount most size (l, 0)).1 = true) with h | h
      · exact h
      · unfold cntC at h0
        dsimp only at h0
        rw [if_neg h] at h0
        exact absurd h0 (sFail_ne hw)
    have hc : cntC most size why good (l, 0) = sCount most size (l, 0) := by
      unfold cntC; rw [if_pos hgd]
    rw [hc] at h0 he ⊢
    obtain ⟨n, h2, h3, h4, h5⟩ := sCount_inv hl h0
    have hb : isB (sCount most size (l, 0)).2.1 := by rw [h5] at hl; exact isB_of_app hl
    have hp : (sCount most size (l, 0)).2 = ((sCount most size (l, 0)).2.1, 0) := Prod.ext rfl h0
    rw [hp] at he ⊢
    rw [h2] at he hgd ⊢
    obtain ⟨h6, h7⟩ := (hg n (by omega) h3 hgd).ca _ hb he
    refine ⟨⟨⟨by omega, h3, hgd⟩, h6⟩, ?_⟩
    rw [Int.toNat_natCast, List.append_assoc, ← h7, ← h5]
  pr x j h hj := by
    obtain ⟨n, y⟩ := x
    obtain ⟨⟨h2, h3, h4⟩, h5⟩ := h
    dsimp only at h2 h3 h4 h5 hj ⊢
    obtain ⟨k, rfl⟩ : ∃ k : Nat, n = (k : Int) := ⟨n.toNat, by omega⟩
    rw [Int.toNat_natCast] at hj ⊢
    rcases Nat.lt_or_ge j (putB k).length with hj1 | hj1
    · rw [List.take_append_of_le_length (by omega)]
      have hc := sCount_short (most := most) (size := size) hm.1 hs k j hj1
      have he : (cntC most size why good ((putB k).take j, 0)).2.2 = 1 := by rw [cntC_of (by rw [hc]; exact Int.one_ne_zero), hc]
      rw [hst _ _ (by rw [he]; exact Int.one_ne_zero), he]
      exact h1
    · rw [List.take_append, List.take_of_length_le hj1]
      rw [List.length_append] at hj
      have hc := sCount_put (most := most) (size := size) hm.1 hs k (by omega) ((enc' k y).take (j - (putB k).length))
      rw [if_pos h3] at hc
      split at hc
      · have hcc : cntC most size why good (putB k ++ (enc' k y).take (j - (putB k).length), 0) = ((k : Int), ((enc' k y).take (j - (putB k).length), 0)) := by
          unfold cntC; rw [hc]; dsimp only; rw [if_pos h4]
        rw [hcc]
        dsimp only
        exact (hg k h2 h3 h4).pr y _ h5 (by omega)
      · have he : (cntC most size why good (putB k ++ (enc' k y).take (j - (putB k).length), 0)).2.2 = 1 := by rw [cntC_of (by rw [hc]; exact Int.one_ne_zero), hc]
        rw [hst _ _ (by rw [he]; exact Int.one_ne_zero), he]
        exact h1
  st p hp := by
    dsimp only
    have h2 : (sCount most size p).2.2 = p.2 := by rw [sCount_err hp]
    have h3 : (cntC most size why good p).2.2 = p.2 := by rw [cntC_of (by rw [h2]; exact hp), h2]
    rw [hst _ _ (by rw [h3]; exact hp), h3]
  nz := hnz

/-! ### one after the other -/
section
variable {σ α : Type}
/-- So many, each with what the ones ahead of it say; none after an error. -/
def rep (f : σ → Ps → α × Ps) (nx : σ → α → σ) : Nat → σ → Ps → List α × Ps
  | 0, s, p => ([], p)
  | n + 1, s, p => if p.2 ≠ 0 then ([], p) else ((f s p).1 :: (rep f nx n (nx s (f s p).1) (f s p).2).1, (rep f nx n (nx s (f s p).1) (f s p).2).2)
def encL (enc : σ → α → List Int) (nx : σ → α → σ) : σ → List α → List Int
  | s, [] => []
  | s, x :: xs => enc s x ++ encL enc nx (nx s x) xs
def okL (ok : σ → α → Prop) (nx : σ → α → σ) : σ → List α → Prop
  | s, [] => True
  | s, x :: xs => ok s x ∧ okL ok nx (nx s x) xs
def foldS (nx : σ → α → σ) : σ → List α → σ
  | s, [] => s
  | s, x :: xs => foldS nx (nx s x) xs
theorem rep_err {f : σ → Ps → α × Ps} {nx : σ → α → σ} {p : Ps} (h : p.2 ≠ 0) : ∀ n s, rep f nx n s p = ([], p)
  | 0, s => rfl
  | n + 1, s => if_pos h
theorem rep_suf {f : σ → Ps → α × Ps} {nx : σ → α → σ} (hf : ∀ s p, (f s p).2.1 <:+ p.1) : ∀ n s p, (rep f nx n s p).2.1 <:+ p.1
  | 0, s, p => List.suffix_refl _
  | n + 1, s, p => by
    unfold rep
    split
    · exact List.suffix_refl _
    · exact (rep_suf hf n _ _).trans (hf s p)
theorem rep_len {f : σ → Ps → α × Ps} {nx : σ → α → σ} : ∀ n s p, (rep f nx n s p).1.length ≤ n
  | 0, s, p => Nat.le_refl _
  | n + 1, s, p => by
    unfold rep
    split
    · exact Nat.zero_le _
    · simpa using rep_len n _ _
/-- One more round. -/
theorem rep_step {f : σ → Ps → α × Ps} {nx : σ → α → σ} {n : Nat} {s : σ} {p : Ps} (h : p.2 = 0) :
    rep f nx (n + 1) s p = ((f s p).1 :: (rep f nx n (nx s (f s p).1) (f s p).2).1, (rep f nx n (nx s (f s p).1) (f s p).2).2) := if_neg (by rw [h]; simp)
theorem rep_full {f : σ → Ps → α × Ps} {nx : σ → α → σ} : ∀ n s p, (rep f nx n s p).2.2 = 0 → (rep f nx n s p).1.length = n
  | 0, s, p, _ => rfl
  | n + 1, s, p, h => by
    by_cases hp : p.2 = 0
    · rw [rep_step hp] at h ⊢
      simpa using rep_full n _ _ h
    · rw [rep_err hp] at h; exact absurd h hp
/-- After k rounds: acc is read, p is left. -/
def Run (f : σ → Ps → α × Ps) (nx : σ → α → σ) (N : Nat) (s0 : σ) (p0 : Ps) (k : Nat) (s : σ) (p : Ps) (acc : List α) : Prop :=
  rep f nx N s0 p0 = (acc ++ (rep f nx (N - k) s p).1, (rep f nx (N - k) s p).2)
theorem Run.start {f : σ → Ps → α × Ps} {nx : σ → α → σ} (N : Nat) (s0 : σ) (p0 : Ps) : Run f nx N s0 p0 0 s0 p0 [] := rfl
theorem Run.next {f : σ → Ps → α × Ps} {nx : σ → α → σ} {N : Nat} {s0 : σ} {p0 : Ps} {k : Nat} {s : σ} {p : Ps} {acc : List α} (h : Run f nx N s0 p0 k s p acc) (hk : k < N) (hp : p.2 = 0)
    {x : α} {p' : Ps} (hf : f s p = (x, p')) (s' : σ) (hs : p'.2 = 0 → s' = nx s x) : Run f nx N s0 p0 (k + 1) s' p' (acc ++ [x]) := by
  unfold Run at h ⊢
  obtain ⟨m, hm⟩ : ∃ m, N - k = m + 1 := ⟨N - k - 1, by omega⟩
  rw [hm, rep_step hp, hf] at h
  rw [show N - (k + 1) = m by omega, h]
  dsimp only
  by_cases hp' : p'.2 = 0
  · rw [hs hp']; simp
  · rw [rep_err hp', rep_err hp']; simp
theorem Run.done {f : σ → Ps → α × Ps} {nx : σ → α → σ} {N : Nat} {s0 : σ} {p0 : Ps} {k : Nat} {s : σ} {p : Ps} {acc : List α} (h : Run f nx N s0 p0 k s p acc) (hd : N ≤ k ∨ p.2 ≠ 0) : rep f nx N s0 p0 = (acc, p) := by
  unfold Run at h
  rcases hd with hd | hd
  · rw [show N - k = 0 by omega] at h; rw [h]; simp [rep]
  · rw [rep_err hd] at h; rw [h]; simp
theorem encL_len {enc : σ → α → List Int} {nx : σ → α → σ} (k : Nat) (h : ∀ s x, k ≤ (enc s x).length) : ∀ s l, k * l.length ≤ (encL enc nx s l).length
  | s, [] => by simp
  | s, x :: xs => by
    have := encL_len (nx := nx) k h (nx s x) xs
    have := h s x
    simp only [encL, List.length_append, List.length_cons, Nat.mul_add]
    omega
theorem Cod.rep {sh : Int → Prop} (hnz : ∀ e, sh e → e ≠ 0) {f : σ → Ps → α × Ps} {nx : σ → α → σ} {enc : σ → α → List Int} {ok : σ → α → Prop} (good : σ → Prop)
    (hf : ∀ s, good s → Cod sh (f s) (enc s) (ok s)) (hst : ∀ s p, p.2 ≠ 0 → (f s p).2.2 = p.2) (hgd : ∀ s x, good s → ok s x → good (nx s x)) : ∀ n s, good s → Cod sh (Cu.rep f nx n s) (encL enc nx s) (fun l => l.length = n ∧ okL ok nx s l)
  | 0, s, hs => (Cod.none hnz ([] : List α)).congr (fun p => rfl) (fun x h => by rw [h]; rfl) (fun x => by
      constructor
      · rintro ⟨h, _⟩; exact List.eq_nil_of_length_eq_zero h
      · rintro rfl; exact ⟨rfl, trivial⟩)
  | n + 1, s, hs => by
    have ih := fun x hx => Cod.rep hnz good hf hst hgd n (nx s x) hx
    have hseq := (hf s hs).seq (g := fun x => Cu.rep f nx n (nx s x)) (fun x hx => ih x (hgd s x hs hx)) (fun x p hp => by rw [rep_err hp])
    refine hseq.map0 _ _ _ (fun x => x.1 :: x.2) (fun l => match l with
      | x :: xs => (x, xs)
      | [] => ((f s ([], 0)).1, [])) ?_ (fun p hp => by rw [rep_err hp]) ?_ ?_
    · intro l
      rw [rep_step rfl]
      exact ⟨rfl, fun _ => rfl⟩
    · rintro (_ | ⟨x, xs⟩) ⟨h1, h2⟩
      · simp at h1
      · exact ⟨⟨h2.1, by simpa using h1, h2.2⟩, rfl, rfl⟩
    · rintro ⟨x, xs⟩ ⟨h1, h2, h3⟩
      exact ⟨⟨by simp [h2], h1, h3⟩, rfl⟩
end
end Go.Proofs.Ytgdfhpknhcjipaa.Cu
