/- Invariants: what is written. -/
import Derived.Test.YtchebkpcgglllaaGreatWi3
namespace Go.Proofs.YtchebkpcgglllaaGreat.Cu
open Go Go.SX Go.Proofs.YtchebkpcgglllaaGreat.VT
set_option maxRecDepth 100000
set_option linter.unusedVariables false
set_option linter.unusedSimpArgs false

def encI : List (List Pr) → List Int
  | [] => []
  | x :: xs => (putB x.length ++ encPrs x) ++ encI xs
theorem encI_eq : ∀ (t : Int) (l : List (List Pr)), encL encBlk nxT t l = encI l
  | t, [] => rfl
  | t, x :: xs => by simp only [encL, encI, encBlk]; rw [encI_eq]
theorem encI_take : ∀ (l : List (List Pr)) (k : Nat) (x : List Pr), l[k]? = some x → encI (l.take (k + 1)) = encI (l.take k) ++ (putB x.length ++ encPrs x)
  | [], k, x, h => by simp at h
  | y :: l, 0, x, h => by simp at h; subst h; simp [encI]
  | y :: l, k + 1, x, h => by
    have := encI_take l k x (by simpa using h)
    simp only [List.take_succ_cons, encI, this, List.append_assoc]
theorem encL_snoc {σ α : Type} {enc : σ → α → List Int} {nx : σ → α → σ} : ∀ (s : σ) (l : List α) (x : α), encL enc nx s (l ++ [x]) = encL enc nx s l ++ enc (foldS nx s l) x
  | s, [], x => by simp [encL, foldS]
  | s, y :: l, x => by simp only [List.cons_append, encL, foldS]; rw [encL_snoc]; simp
/-- The state after k pairs. -/
def stK (ps : List Pr) (k : Nat) : PS := if k = 0 then ps0 else (false, ps.getD (k - 1) pr0)
theorem foldS_take : ∀ (ps : List Pr) (s : PS) (k : Nat), k ≤ ps.length → foldS nxP s (ps.take k) = if k = 0 then s else (false, ps.getD (k - 1) pr0)
  | ps, s, 0, _ => by simp [foldS]
  | [], s, k + 1, h => by simp at h
  | p :: ps, s, 1, h => by simp [foldS, nxP]
  | p :: ps, s, k + 2, h => by
    have := foldS_take ps (nxP s p) (k + 1) (by simpa using h)
    rw [List.take_succ_cons, foldS, this]
    simp
theorem encPrs_take (ps : List Pr) (k : Nat) (x : Pr) (h : ps[k]? = some x) : encPrs (ps.take (k + 1)) = encPrs (ps.take k) ++ encPr (stK ps k) x := by
  have hk : k < ps.length := (List.getElem?_eq_some_iff.1 h).1
  unfold encPrs
  rw [List.take_add_one, h]
  show encL encPr nxP ps0 (ps.take k ++ [x]) = _
  rw [encL_snoc, foldS_take _ _ _ (by omega)]
  rfl
theorem encPr_le (s : PS) (x : Pr) : (encPr s x).length ≤ 20 := by
  have h1 := pU_len (x.v - s.2.v)
  have h2 := pU_len x.l
  have h3 := pU_len (x.l - s.2.l - 1)
  unfold encPr
  split <;> simp only [List.length_append] <;> omega
theorem encL_le {σ α : Type} {enc : σ → α → List Int} {nx : σ → α → σ} (b : Nat) (h : ∀ s x, (enc s x).length ≤ b) : ∀ s l, (encL enc nx s l).length ≤ b * l.length
  | s, [] => by simp [encL]
  | s, x :: xs => by
    have h1 := encL_le (nx := nx) b h (nx s x) xs
    have h2 := h s x
    simp only [encL, List.length_append, List.length_cons, Nat.mul_add]
    omega
theorem encPrs_le (ps : List Pr) : (encPrs ps).length ≤ 20 * ps.length := encL_le 20 encPr_le _ _
theorem encI_le (b : Nat) : ∀ (l : List (List Pr)), (∀ x ∈ l, x.length ≤ b) → (encI l).length ≤ (10 + 20 * b) * l.length
  | [], _ => by simp [encI]
  | x :: xs, h => by
    have h1 := encI_le b xs (fun y hy => h y (by simp [hy]))
    have h2 := encPrs_le x
    have h3 := h x (by simp)
    have h4 := putB_len x.length
    simp only [encI, List.length_append, List.length_cons, Nat.mul_add]
    omega
theorem kPrs_R {G : Gh} {l : List Pr} {cs : List Value} (h : kPrs.R G l cs) : ∃ A c, cs = [.slice A l.length c] ∧ kPr.S G A c l := h
theorem stK_next (ps : List Pr) (j : Nat) (p : Pr) (h : ps[j]? = some p) : stK ps (j + 1) = (false, p) := by
  unfold stK
  rw [if_neg (by omega), List.getD_eq_getElem?_getD, Nat.add_sub_cancel, h]
  rfl
theorem stK_first (ps : List Pr) (j : Nat) : (stK ps j).1 = true ↔ j = 0 := by
  unfold stK
  split
  · simp [ps0, *]
  · simp [*]
theorem wrap_sub2 (a b : Int) : IntKind.u64.wrap (IntKind.i64.wrap (IntKind.i64.wrap (a - b) - 1)) = IntKind.u64.wrap (a - b - 1) := by rw [IntKind.wrap_i64, IntKind.wrap_i64, IntKind.wrap_u64, IntKind.wrap_u64]; omega
theorem wrap_sub (a b : Int) : IntKind.u64.wrap (IntKind.i64.wrap (a - b)) = IntKind.u64.wrap (a - b) := by rw [IntKind.wrap_i64, IntKind.wrap_u64, IntKind.wrap_u64]; omega
set_option maxHeartbeats 8000000 in
theorem put_inv_fn (G : Gh) (A : Option Addr) (c : Nat) (l : List (List Pr)) (xs : List Int) (hl : kPrs.S G A c l) (h1 : l.length ≤ 50) (h2 : ∀ x ∈ l, x.length ≤ 500) (hx : xs.length ≤ 100000) :
    Ct Tryz.prog 42 [.p 0 0, .v (.slice A l.length c)] (wrH xs) G fun sv H' G' => sv = .tup [] ∧ H' = wrH (xs ++ encI l) := by
  refine fn_of follows [] Tryz.func42 rfl rfl fun E hE => ?_
  have hcap := hl.cap
  repeat' ((fail_if_success with_reducible refine Stop.mk ?_);(conv=>whnf);with_reducible refine stop ?_)
  all_goals refine Stop.mk ?_
  refine loop_vars follows [] (α := Nat × Gh) (fun x => [(11, .v (.int .i64 x.1))]) (fun x => wrH (xs ++ encI (l.take x.1))) (fun x => x.2) (fun x => x.1 ≤ l.length ∧ kPrs.S x.2 A c l) (fun x => l.length - x.1) (0, G)
    ⟨Nat.zero_le _, hl⟩ (by simp [encI]) rfl ?_ ?_
  ·
    refine ⟨?_⟩
    (conv => whnf)
    (repeat' (first | exact trivial | exact .inl rfl | exact .inr rfl | refine And.intro ?_ ?_))
  clear hl
  rintro ⟨k, Gk⟩ ⟨hk, hl⟩
  dsimp only at hk hl ⊢
  have hw2 : IntKind.i64.wrap ((k : Int) + 1) = ((k + 1 : Nat) : Int) := by rw [i64_in (by omega) (by omega)]; simp
  have hlen : (xs ++ encI (l.take k)).length ≤ 700000 := by
    have h3 := encI_le 500 (l.take k) (fun x hx => h2 x (List.mem_of_mem_take hx))
    rw [List.length_take] at h3
    rw [List.length_append]; omega
  have hstep := encI_take l k
  repeat' ((fail_if_success with_reducible refine Stop.mk ?_);(conv=>whnf);with_reducible first|refine br_d (fun h=>?_) fun h=>?_|refine stop ?_)
  all_goals refine Stop.mk ?_
  ·
    obtain ⟨_, hs_, hat_⟩ := hl.at (sz := 1) rfl
    refine ⟨⟨by omega, by omega⟩, _, hs_, fun ad had hadr => ?_⟩
    obtain ⟨ps, cells, hps, hRps, hGps⟩ := hat_ k (by omega) ad (by first | exact had | (rw [Int.toNat_natCast] at had; exact had))
    clear had hat_ hs_
    obtain ⟨A', c', rfl, hS⟩ := kPrs_R hRps
    have hpl := h2 ps (List.mem_of_getElem? hps)
    have hcap2 := hS.cap
    replace hstep := hstep ps hps
    repeat' ((fail_if_success with_reducible refine Stop.mk ?_);(conv=>whnf);with_reducible refine stop ?_)
    all_goals refine Stop.mk ?_
    refine ⟨_, ld1 hGps, ?_⟩
    repeat' ((fail_if_success with_reducible refine Stop.mk ?_);(conv=>whnf);with_reducible refine stop ?_)
    all_goals refine Stop.mk ?_
    rw [u64_in (n := (ps.length : Int)) (by omega) (by omega)]
    refine call_fn [0, 1] (wuint_fn _ ps.length _ (by omega) (by omega)) rfl ⟨rfl, rfl, trivial⟩ (by decide) ?_
    rintro sv H' G' ⟨rfl, rfl⟩ hg
    refine ⟨Nat.le_of_ble_eq_true rfl, ?_⟩
    replace hl := hl.to hg
    replace hS := hS.to hg
    clear hg
    have hpl2 := putB_len ps.length
    repeat' ((fail_if_success with_reducible refine Stop.mk ?_);(conv=>whnf);with_reducible refine stop ?_)
    all_goals refine Stop.mk ?_
    generalize hW : xs ++ encI (l.take k) ++ putB ps.length = W at *
    have hWl : W.length ≤ 700010 := by rw [← hW, List.length_append]; omega
    refine loop_opq fun K0 hK0 => ?_
    refine loop_vars follows [] (α := Nat × Gh) (fun x => [(22, .v (.int .i64 x.1))]) (fun x => [.cells 95 [.s 1], .row 5 1 (W ++ encPrs (ps.take x.1)).length (byts (W ++ encPrs (ps.take x.1))), prO (stK ps x.1).2]) (fun x => x.2) (fun x => x.1 ≤ ps.length ∧ kPrs.S x.2 A c l ∧ kPr.S x.2 A' c' ps) (fun x => ps.length - x.1) (0, G')
      ⟨Nat.zero_le _, hl, hS⟩ (by simp [encPrs, encL, stK]; rfl) rfl ?_ ?_
    ·
      refine ⟨?_⟩
      (conv => whnf)
      (repeat' (first | exact trivial | exact .inl rfl | exact .inr rfl | refine And.intro ?_ ?_))
    clear hl hS
    rintro ⟨j, Gj⟩ ⟨hj, hl, hS⟩
    dsimp only at hj hl hS ⊢
    have hw3 : IntKind.i64.wrap ((j : Int) + 1) = ((j + 1 : Nat) : Int) := by rw [i64_in (by omega) (by omega)]; simp
    have hpre := encPrs_take ps j
    have hpl3 : (W ++ encPrs (ps.take j)).length ≤ 720010 := by
      have := encPrs_le (ps.take j)
      rw [List.length_take] at this
      rw [List.length_append]; omega
    generalize hV : W ++ encPrs (ps.take j) = V at *
    repeat' ((fail_if_success with_reducible refine Stop.mk ?_);(conv=>whnf);with_reducible first|refine br_d (fun h=>?_) fun h=>?_|refine stop ?_)
    all_goals refine Stop.mk ?_
    ·
      obtain ⟨_, hs_, hat_⟩ := hS.at (sz := 2) rfl
      refine ⟨⟨by omega, by omega⟩, _, hs_, fun ad had hadr => ?_⟩
      obtain ⟨p, cells, hp, hRp, hGp⟩ := hat_ j (by omega) ad (by first | exact had | (rw [Int.toNat_natCast] at had; exact had))
      clear had hat_ hs_
      obtain ⟨rfl, hp1, hp2⟩ := hRp
      replace hpre := hpre p hp
      have hnxt := stK_next ps j p hp
      have hf0 := stK_first ps j
      generalize stK ps j = s at *
      obtain ⟨f0, q⟩ := s
      dsimp only at hf0 hpre ⊢
      repeat' ((fail_if_success with_reducible refine Stop.mk ?_);(conv=>whnf);with_reducible refine stop ?_)
      all_goals refine Stop.mk ?_
      refine ⟨_, rfl, hGp, ?_⟩
      repeat' ((fail_if_success with_reducible refine Stop.mk ?_);(conv=>whnf);with_reducible refine stop ?_)
      all_goals refine Stop.mk ?_
      rw [wrap_sub]
      refine call_fn [0, 1] (wU_fn _ (p.v - q.v) V (by omega)) rfl ⟨rfl, rfl, trivial⟩ (by decide) ?_
      rintro sv H' G' ⟨rfl, rfl⟩ hg
      refine ⟨Nat.le_of_ble_eq_true rfl, ?_⟩
      replace hl := hl.to hg
      replace hS := hS.to hg
      clear hg
      have hplv := pU_len (p.v - q.v)
      generalize hV2 : V ++ pU (p.v - q.v) = V2 at *
      have hV2l : V2.length ≤ 720020 := by rw [← hV2, List.length_append]; omega
      have e : ∀ X, pU X = (if f0 = true ∨ p.v ≠ q.v then pU p.l else pU (p.l - q.l - 1)) → W ++ (encPrs (ps.take j) ++ encPr (f0, q) p) = V2 ++ pU X := by
        intro X hX
        rw [hX, ← hV2, ← hV]
        unfold encPr
        simp only [List.append_assoc]
      repeat' ((fail_if_success with_reducible refine Stop.mk ?_);(conv=>whnf);with_reducible first|refine br_f ?_|refine br_d (fun h=>?_) fun h=>?_|refine br_e (fun h=>?_) fun h=>?_|refine stop ?_)
      all_goals refine Stop.mk ?_
      all_goals try rw [wrap_sub2]
      all_goals
        refine call_fn [0, 1] (wU_fn _ _ V2 (by omega)) rfl ⟨rfl, rfl, trivial⟩ (by decide) ?_
        rintro sv H' G' ⟨rfl, rfl⟩ hg
        refine ⟨Nat.le_of_ble_eq_true rfl, ?_⟩
        replace hl := hl.to hg
        replace hS := hS.to hg
        clear hg
        repeat' ((fail_if_success with_reducible refine Stop.mk ?_);(conv=>whnf);with_reducible refine stop ?_)
        all_goals refine Stop.mk ?_
        rw [hw3]
        refine tell_gc hE [0, 1, 2] rfl rfl ?_
        (conv => whnf)
        refine tell_here ⟨(j + 1, _), ⟨by show j + 1 ≤ _; omega, hl, hS⟩, by show ps.length - (j + 1) < ps.length - j; omega, ?_, rfl, ?_⟩
        · dsimp only
          rw [hnxt, hpre, e _ (by first
            | rw [if_pos (.inl (hf0.2 (by omega)))]
            | rw [if_pos (.inr (by omega))]
            | rw [if_neg (by rintro (h1 | h1)
                             · have := hf0.1 h1; omega
                             · omega)])]
          rfl
        ·
          refine ⟨?_⟩
          (conv => whnf)
          (repeat' (first | exact trivial | exact .inl rfl | exact .inr rfl | refine And.intro ?_ ?_))
    · obtain rfl : j = ps.length := by omega
      refine Stop.mk (hK0 _ _ ?_)
      clear hK0
      repeat' ((fail_if_success with_reducible refine Stop.mk ?_);(conv=>whnf);with_reducible refine stop ?_)
      all_goals refine Stop.mk ?_
      rw [hw2]
      refine tell_gc hE [0, 1] rfl rfl ?_
      (conv => whnf)
      refine tell_here ⟨(k + 1, _), ⟨by show k + 1 ≤ _; omega, hl⟩, by show l.length - (k + 1) < l.length - k; omega, ?_, rfl, ?_⟩
      · dsimp only
        rw [hstep, ← hV, ← hW, List.take_length]
        unfold wrH
        simp only [List.append_assoc]
      ·
        refine ⟨?_⟩
        (conv => whnf)
        (repeat' (first | exact trivial | exact .inl rfl | exact .inr rfl | refine And.intro ?_ ?_))
  · obtain rfl : k = l.length := by omega
    refine fin_id hE 2 rfl rfl rfl rfl ⟨rfl, ?_⟩
    rw [List.take_length]
    rfl
end Go.Proofs.YtchebkpcgglllaaGreat.Cu
