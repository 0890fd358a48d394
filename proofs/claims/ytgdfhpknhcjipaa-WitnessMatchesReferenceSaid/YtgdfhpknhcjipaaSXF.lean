/- A symbolic walk: objects that are done are frozen. -/
import Derived.Test.YtgdfhpknhcjipaaSX5
namespace Go.SX
set_option linter.unusedVariables false
set_option linter.unusedSimpArgs false

def forceOb : Ob → (Ob → Prop) → Prop
  | .cells T xs, k => forceL xs fun xs' => k (.cells T xs')
  | .row e sz n xs, k => k (.row e sz n xs)
  | .lit T n xs, k => forceL xs fun xs' => k (.lit T n xs')
  | .gone, k => k .gone
theorem forceOb_eq (ob : Ob) (k : Ob → Prop) : forceOb ob k = k ob := by cases ob <;> simp [forceOb, forceL_eq]
def forceObs : List Ob → (List Ob → Prop) → Prop
  | [], k => k []
  | x :: xs, k => forceOb x fun x' => forceObs xs fun xs' => k (x' :: xs')
theorem forceObs_eq : ∀ (l : List Ob) (k : List Ob → Prop), forceObs l k = k l
  | [], _ => rfl
  | x :: xs, k => by simp [forceObs, forceOb_eq, forceObs_eq xs]

/-! ### objects that are done -/
mutual
def SV.fz (i : Nat) (x : Value) : SV → SV
  | .v y => .v y
  | .p j o => match Nat.beq j i with
    | true => .dead
    | false => .p j o
  | .s j => match Nat.beq j i with
    | true => .v x
    | false => .s j
  | .f fn a c => .f fn (fzs i x a) (fzs i x c)
  | .agg xs => .agg (fzs i x xs)
  | .tup xs => .tup (fzs i x xs)
  | .lit b => .lit b
  | .dead => .dead
def fzs (i : Nat) (x : Value) : List SV → List SV
  | [] => []
  | y :: ys => y.fz i x :: fzs i x ys
end
def Ob.fz (i : Nat) (x : Value) : Ob → Ob
  | .cells T xs => .cells T (fzs i x xs)
  | .row e sz n xs => .row e sz n xs
  | .lit T n xs => .lit T n (fzs i x xs)
  | .gone => .gone
section
variable {ρ : List Value} {i : Nat} {x : Value}
theorem beq_ne {j i : Nat} (h : Nat.beq j i = false) : i ≠ j := fun e => by subst e; simp at h
mutual
theorem Rv.fz_ (hx : ρ[i]? = some x) (u : Value) : ∀ {y : SV} {v : Value}, Rv ρ y v → Rv (ρ.set i u) (y.fz i x) v
  | .v _, _, h => by simpa [Rv, SV.fz] using h
  | .p j off, _, h => by
    simp only [SV.fz]
    split
    · simp [Rv]
    · rename_i hne
      simp only [Rv] at h ⊢
      obtain ⟨x', b, hb, hx', rfl⟩ := h
      exact ⟨x', b, by rw [List.getElem?_set_ne (beq_ne hne)]; exact hb, hx', rfl⟩
  | .s j, _, h => by
    simp only [SV.fz]
    split
    · rename_i he
      have := Nat.eq_of_beq_eq_true he
      subst this
      simp only [Rv] at h ⊢
      rw [hx] at h; simpa using h.symm
    · rename_i hne
      simp only [Rv] at h ⊢
      rw [List.getElem?_set_ne (beq_ne hne)]; exact h
  | .f fn a c, _, h => by
    simp only [Rv, SV.fz] at h ⊢
    obtain ⟨a', c', rfl, h1, h2⟩ := h
    exact ⟨a', c', rfl, Rvs.fz_ hx u h1, Rvs.fz_ hx u h2⟩
  | .agg xs, _, h => by
    simp only [Rv, SV.fz] at h ⊢
    obtain ⟨ys, rfl, h1⟩ := h
    exact ⟨ys, rfl, Rvs.fz_ hx u h1⟩
  | .tup xs, _, h => by
    simp only [Rv, SV.fz] at h ⊢
    obtain ⟨ys, rfl, h1⟩ := h
    exact ⟨ys, rfl, Rvs.fz_ hx u h1⟩
  | .lit _, _, h => by simpa [Rv, SV.fz] using h
  | .dead, _, _ => by simp [Rv, SV.fz]
theorem Rvs.fz_ (hx : ρ[i]? = some x) (u : Value) : ∀ {ys : List SV} {vs : List Value}, Rvs ρ ys vs → Rvs (ρ.set i u) (fzs i x ys) vs
  | [], _, h => by simpa [Rvs, fzs] using h
  | y :: ys, _, h => by
    simp only [Rvs, fzs] at h ⊢
    obtain ⟨v, vt, rfl, h1, h2⟩ := h
    exact ⟨v, vt, rfl, Rv.fz_ hx u h1, Rvs.fz_ hx u h2⟩
end
theorem ObOK.fz_ {w : World} (hx : ρ[i]? = some x) (u : Value) {ob : Ob} {y : Value} (h : ObOK ρ w ob y) : ObOK (ρ.set i u) w (ob.fz i x) y := by
  cases ob with
  | cells T xs => simp only [ObOK, Ob.fz] at h ⊢; obtain ⟨b, cs, rfl, h1, h2⟩ := h; exact ⟨b, cs, rfl, h1, Rvs.fz_ hx u h2⟩
  | row e sz n xs => exact h
  | lit T n xs => simp only [ObOK, Ob.fz] at h ⊢; obtain ⟨b, cs, rfl, h1, h2⟩ := h; exact ⟨b, cs, rfl, h1, Rvs.fz_ hx u h2⟩
  | gone => exact h
end

section
variable {E : Env} {ρ : List Value} {H : List Ob} {G : Gh} {w : World}

def Ghe (G G' : Gh) : Prop := ∀ b o, G b = some o → G' b = some o

def fzG (w : World) (x : Value) (G : Gh) : Gh := fun b => if blkOf x = some b then w.heap[b]? else G b
theorem Ag.done3 (h : Ag E ρ H G w) {i e sz n : Nat} {xs : List Value} (hH : H[i]? = some (.row e sz n xs)) (h1 : ∀ v ∈ xs, v.oneCell' = true) :
    ∃ A c, ρ[i]? = some (.slice A n c) ∧ Ghe G (fzG w (.slice A n c) G) ∧ Sl (fzG w (.slice A n c) G) A n c sz xs ∧ Ag E (ρ.set i .nilFunc) ((H.map (·.fz i (.slice A n c))).set i .gone) (fzG w (.slice A n c) G) w := by
  have hi : i < ρ.length := by rw [h.len]; exact (List.getElem?_eq_some_iff.1 hH).1
  have hρ := List.getElem?_eq_getElem hi
  have hob := h.obs i _ _ hH hρ
  simp only [ObOK] at hob
  have hsl : ∃ A c, ρ[i] = .slice A n c := by
    rcases hob.2 with ⟨h0, h0'⟩ | ⟨g, cap, cur, h0, _⟩
    · exact ⟨none, 0, by rw [h0, h0']⟩
    · exact ⟨_, _, h0⟩
  obtain ⟨A, c, hv⟩ := hsl
  rw [hv] at hρ hob
  have hfr := h.freeze hρ (fun a e => by cases e)
  refine ⟨A, c, hρ, ?_, ?_, ?_⟩
  rotate_left 2
  · refine ⟨by simp [h.len], ?_, hfr.apart, hfr.own, hfr.ext, hfr.frame, hfr.size, hfr.os, hfr.tape, hfr.output, hfr.old, hfr.gold, hfr.gnew⟩
    intro j ob y hob' hy
    by_cases hj : i = j
    · subst hj
      rw [List.getElem?_set_self hi] at hy
      rw [List.getElem?_set_self (by simpa using (List.getElem?_eq_some_iff.1 hH).1)] at hob'
      simp at hob' hy; subst hob' hy; rfl
    · rw [List.getElem?_set_ne hj] at hy
      rw [List.getElem?_set_ne hj, List.getElem?_map] at hob'
      obtain ⟨ob0, h0, rfl⟩ := Option.map_eq_some_iff.1 hob'
      exact (h.obs j ob0 y h0 hy).fz_ hρ _
  · intro b o hb
    show (if blkOf (.slice A n c) = some b then w.heap[b]? else G b) = some o
    rw [if_neg (fun hxb => by have := (h.own i _ b hρ hxb).2.1; rw [hb] at this; simp at this)]
    exact hb
  · rcases hob.2 with ⟨h0, h0'⟩ | ⟨g, cap, cur, h0, _, hg, hnc, hcm, hcs, htake⟩
    · simp at h0
      obtain ⟨rfl, rfl, rfl⟩ := h0
      exact ⟨hob.1, Nat.le_refl _, by omega, fun ad he => by simp at he, fun _ => ⟨rfl, rfl⟩, h1⟩
    · simp at h0
      obtain ⟨rfl, rfl⟩ := h0
      refine ⟨hob.1, hnc, by simpa [maxLen] using hcm, fun ad he => ?_, fun he => by simp at he, h1⟩
      simp at he
      subst he
      intro j v hj
      rw [add_off, Nat.zero_add]
      simp only [Gcell, fzG, blkOf, if_true, hg]
      rw [← htake, List.getElem?_take] at hj
      split at hj
      · simpa using hj
      · simp at hj
theorem Ag.done (h : Ag E ρ H G w) {i e sz n : Nat} {xs : List Value} (hH : H[i]? = some (.row e sz n xs)) (h1 : ∀ v ∈ xs, v.oneCell' = true) :
    ∃ A c G', ρ[i]? = some (.slice A n c) ∧ Ghe G G' ∧ Sl G' A n c sz xs ∧ Ag E (ρ.set i .nilFunc) ((H.map (·.fz i (.slice A n c))).set i .gone) G' w := by
  obtain ⟨A, c, h2, h3, h4, h5⟩ := h.done3 hH h1
  exact ⟨A, c, _, h2, h3, h4, h5⟩
/-- A slice in memory of which nothing was known. -/
def Fresh (G : Gh) (A : Option Addr) : Prop := ∀ ad, A = some ad → G ad.block = none
theorem Ag.done4 (h : Ag E ρ H G w) {i e sz n : Nat} {xs : List Value} (hH : H[i]? = some (.row e sz n xs)) (h1 : ∀ v ∈ xs, v.oneCell' = true) :
    ∃ A c G', ρ[i]? = some (.slice A n c) ∧ Ghe G G' ∧ Fresh G A ∧ (∀ ad, A = some ad → ∃ o, G' ad.block = some o) ∧ Sl G' A n c sz xs ∧ Ag E (ρ.set i .nilFunc) ((H.map (·.fz i (.slice A n c))).set i .gone) G' w := by
  obtain ⟨A, c, h2, h3, h4, h5⟩ := h.done3 hH h1
  refine ⟨A, c, _, h2, h3, fun ad had => ?_, fun ad had => ?_, h4, h5⟩
  · subst had; exact (h.own i _ ad.block h2 rfl).2.1
  · subst had
    have hl := (h.own i _ ad.block h2 rfl).1
    refine ⟨w.heap[ad.block], ?_⟩
    simp only [fzG, blkOf, if_true]
    exact Array.getElem?_eq_getElem hl
/-- Nothing but what T names has changed, seen from the state ahead of the freezing. -/
theorem Fp.frz {ρ ρ'' : List Value} {G G' G'' : Gh} {T T' : List Nat} {w w' : World} {k : Nat} (hk : k ∈ T) (hT : ∀ i ∈ T', i ∈ T) (hg : Ghe G G') (h : Fp (ρ.set k .nilFunc) ρ'' G' G'' T' w w') : Fp ρ ρ'' G G'' T w w' := by
  refine ⟨fun b hb hn => h.blk b hb fun i hi x hx => ?_, fun i x hi hx => h.ids i x (fun hh => hi (hT i hh)) ?_, fun b o ho => h.gh b o (hg b o ho)⟩
  · by_cases hik : k = i
    · subst hik
      by_cases hl : k < ρ.length
      · rw [List.getElem?_set_self hl] at hx; simp at hx; subst hx; simp [blkOf]
      · rw [List.getElem?_eq_none (by simp; omega)] at hx; simp at hx
    · rw [List.getElem?_set_ne hik] at hx
      exact hn i (hT i hi) x hx
  · rw [List.getElem?_set_ne (fun e => hi (by rw [← e]; exact hk))]; exact hx
def obfz (i : Nat) (x : Value) : List Ob → List Ob
  | [] => []
  | ob :: l => ob.fz i x :: obfz i x l
theorem obfz_eq (i : Nat) (x : Value) : ∀ l, obfz i x l = l.map (·.fz i x)
  | [] => rfl
  | ob :: l => by simp [obfz, obfz_eq i x l]
theorem evr_fz_ {i : Nat} {x : Value} : ∀ (y : SV), nrm (y.fz i x) = (nrm y).fz i x
  | .v _ => rfl
  | .p j o => by cases h : Nat.beq j i <;> simp [SV.fz, nrm, h]
  | .s j => by cases h : Nat.beq j i <;> simp [SV.fz, nrm, h]
  | .f _ _ _ => rfl
  | .agg _ => rfl
  | .tup _ => rfl
  | .lit _ => rfl
  | .dead => rfl
theorem nth_fzs {i : Nat} {x : Value} : ∀ (l : List SV) (t : Nat), nth (fzs i x l) t = (nth l t).map (·.fz i x)
  | [], t => by simp [fzs, nth]
  | a :: l, 0 => by simp [fzs, nth]
  | a :: l, t + 1 => by simp [fzs, nth, nth_fzs l t]
theorem ev_fz {i : Nat} {x : Value} (fr : List SV) (y : Operand) : ev (fzs i x fr) y = (ev fr y).fz i x := by
  unfold ev
  rw [← evr_fz_]
  cases y with
  | tmp t => simp only [evr, nth_fzs]; cases nth fr t <;> simp [SV.fz]
  | const v => rfl
  | global g => rfl
  | func f => rfl
end
end Go.SX
