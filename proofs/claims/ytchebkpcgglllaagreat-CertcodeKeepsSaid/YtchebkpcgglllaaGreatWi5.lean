/- Invariants: what the reference writes. -/
import Derived.Test.YtchebkpcgglllaaGreatWi4
namespace Go.Proofs.YtchebkpcgglllaaGreat.Cu
open Go Go.SX Go.Proofs.YtchebkpcgglllaaGreat.VT
set_option maxRecDepth 100000
set_option linter.unusedVariables false
set_option linter.unusedSimpArgs false

theorem r19put_fn (G : Gh) (l : List Int) (n : Int) (hl : l.length ≤ 1000000) :
    Ct Tryz.prog 102 [.s 0, .v (.int .i64 n)] [rowB l] G fun sv H' G' => sv = .s 0 ∧ H' = [rowB (l ++ pU n)] ∧ G' = G := by
  have hp := pU_len n
  have hn := pU_nat n
  have hrp := rput_fn G (IntKind.u64.wrap n).toNat (by omega)
  rw [Int.toNat_of_nonneg hn.1] at hrp
  refine fn_of follows [] Tryz.func102 rfl rfl fun E hE => ?_
  repeat' ((fail_if_success with_reducible refine Stop.mk ?_);(conv=>whnf);with_reducible refine stop ?_)
  all_goals refine Stop.mk ?_
  refine call_fn [] (hrp) rfl trivial (by decide) ?_
  rintro sv H' G' ⟨rfl, rfl, rfl⟩ -
  refine ⟨Nat.le_of_ble_eq_true rfl, ?_⟩
  repeat' ((fail_if_success with_reducible refine Stop.mk ?_);(conv=>whnf);with_reducible refine stop ?_)
  all_goals refine Stop.mk ?_
  refine ⟨byts_one _, ⟨by show (l.length + (pU n).length) * 1 ≤ _; omega, ?_⟩⟩
  repeat' ((fail_if_success with_reducible refine Stop.mk ?_);(conv=>whnf);with_reducible refine stop ?_)
  all_goals refine Stop.mk ?_
  refine fin_id hE 1 rfl rfl rfl rfl ⟨rfl, ?_, rfl⟩
  rw [← rowB_app']; rfl
theorem encI_mono : ∀ (l : List (List Pr)) (k : Nat), (encI (l.take k)).length ≤ (encI l).length
  | [], k => by simp
  | x :: l, 0 => by simp [encI]
  | x :: l, k + 1 => by have := encI_mono l k; simp only [List.take_succ_cons, encI, List.length_append]; omega
theorem encL_mono {σ α : Type} {enc : σ → α → List Int} {nx : σ → α → σ} : ∀ (s : σ) (l : List α) (k : Nat), (encL enc nx s (l.take k)).length ≤ (encL enc nx s l).length
  | s, [], k => by simp
  | s, x :: l, 0 => by simp [encL]
  | s, x :: l, k + 1 => by have := encL_mono (enc := enc) (nx := nx) (nx s x) l k; simp only [List.take_succ_cons, encL, List.length_append]; omega
theorem encPrs_mono (ps : List Pr) (k : Nat) : (encPrs (ps.take k)).length ≤ (encPrs ps).length := encL_mono _ _ _
theorem pU_nat' (n : Nat) (h : n < 18446744073709551616) : pU (n : Int) = putB n := by unfold pU; rw [u64_in (by omega) (by omega)]; simp
theorem pU_wrap (a : Int) : pU (IntKind.i64.wrap a) = pU a := by
  unfold pU
  congr 2
  rw [IntKind.wrap_i64, IntKind.wrap_u64, IntKind.wrap_u64]; omega
theorem pU_wrap2 (a : Int) : pU (IntKind.i64.wrap (IntKind.i64.wrap a - 1)) = pU (a - 1) := by
  unfold pU
  congr 2
  rw [IntKind.wrap_i64, IntKind.wrap_i64, IntKind.wrap_u64, IntKind.wrap_u64]; omega
set_option maxHeartbeats 8000000 in
theorem rput_inv_fn (G : Gh) (A : Option Addr) (c : Nat) (l : List (List Pr)) (hl : kPrs.S G A c l) (h1 : l.length ≤ 1000000) (hE0 : (encI l).length ≤ 700000) :
    Ct Tryz.prog 49 [.v (.slice A l.length c)] [] G fun sv H' G' => (∃ A c, sv = .v (.slice A (encI l).length c) ∧ SlB G' A c (encI l)) ∧ H' = [] := by
  refine fn_of follows [(11, (.cons 0 [] (.cons 1 [] (.cons 2 [] (.cons 4 [] (.cons 5 [] (.cons 3 [2] (.cons 6 [2, 5] (.cons 7 [] .nil)))))))))] Tryz.func49 rfl rfl fun E hE => ?_
  have hcap := hl.cap
  repeat' ((fail_if_success with_reducible refine Stop.mk ?_);(conv=>whnf);with_reducible refine stop ?_)
  all_goals refine Stop.mk ?_
  refine loop_gh (gh_birth 3 5 1 rfl) ?_
  rintro _ _ ⟨rfl, rfl⟩
  refine loop_vars follows [(11, (.cons 0 [] (.cons 1 [] (.cons 2 [] (.cons 4 [] (.cons 5 [] (.cons 3 [2] (.cons 6 [2, 5] (.cons 7 [] .nil)))))))))] (α := Nat × Gh) (fun x => [(3, .s 0), (4, .v (.int .i64 x.1))]) (fun x => [.row 5 1 (encI (l.take x.1)).length (byts (encI (l.take x.1)))]) (fun x => x.2) (fun x => x.1 ≤ l.length ∧ kPrs.S x.2 A c l) (fun x => l.length - x.1) (0, G)
    ⟨Nat.zero_le _, hl⟩ rfl rfl ?_ ?_
  ·
    refine ⟨?_⟩
    (conv => whnf)
    (repeat' (first | exact trivial | exact .inl rfl | exact .inr rfl | refine And.intro ?_ ?_))
  clear hl
  rintro ⟨k, Gk⟩ ⟨hk, hl⟩
  dsimp only at hk hl ⊢
  have hw2 : IntKind.i64.wrap ((k : Int) + 1) = ((k + 1 : Nat) : Int) := by rw [i64_in (by omega) (by omega)]; simp
  have hlen : (encI (l.take k)).length ≤ 700000 := Nat.le_trans (encI_mono l k) hE0
  have hstep := encI_take l k
  repeat' ((fail_if_success with_reducible refine Stop.mk ?_);(conv=>whnf);with_reducible first|refine br_d (fun h=>?_) fun h=>?_|refine stop ?_)
  all_goals refine Stop.mk ?_
  ·
    obtain ⟨_, hs_, hat_⟩ := hl.at (sz := 1) rfl
    refine ⟨⟨by omega, by omega⟩, _, hs_, fun ad had hadr => ?_⟩
    obtain ⟨ps, cells, hps, hRps, hGps⟩ := hat_ k (by omega) ad (by first | exact had | (rw [Int.toNat_natCast] at had; exact had))
    clear had hat_ hs_
    obtain ⟨A', c', rfl, hS⟩ := kPrs_R hRps
    have hcap2 := hS.cap
    replace hstep := hstep ps hps
    have hall := Nat.le_trans (encI_mono l (k + 1)) hE0
    rw [hstep, List.length_append, List.length_append] at hall
    have hpl : 2 * ps.length ≤ (encPrs ps).length := encL_len 2 encPr_len ps0 ps
    repeat' ((fail_if_success with_reducible refine Stop.mk ?_);(conv=>whnf);with_reducible refine stop ?_)
    all_goals refine Stop.mk ?_
    refine ⟨_, ld1 hGps, ?_⟩
    repeat' ((fail_if_success with_reducible refine Stop.mk ?_);(conv=>whnf);with_reducible refine stop ?_)
    all_goals refine Stop.mk ?_
    refine call_fn [0] (r19put_fn _ (encI (l.take k)) ps.length (by omega)) rfl ⟨rfl, trivial⟩ (by decide) ?_
    rintro sv H' G' ⟨rfl, rfl, rfl⟩ -
    refine ⟨Nat.le_of_ble_eq_true rfl, ?_⟩
    rw [pU_nat' _ (by omega)]
    have hpl2 := putB_len ps.length
    generalize hW : encI (l.take k) ++ putB ps.length = W at *
    have hWl : W.length + (encPrs ps).length ≤ 700000 := by rw [← hW, List.length_append]; omega
    repeat' ((fail_if_success with_reducible refine Stop.mk ?_);(conv=>whnf);with_reducible refine stop ?_)
    all_goals refine Stop.mk ?_
    refine loop_opq fun K0 hK0 => ?_
    refine loop_vars follows [(11, (.cons 0 [] (.cons 1 [] (.cons 2 [] (.cons 4 [] (.cons 5 [] (.cons 3 [2] (.cons 6 [2, 5] (.cons 7 [] .nil)))))))))] (α := Nat) (fun x => [(3, .s 0), (5, .v (.int .i64 x)), (20, .dead)]) (fun x => [.row 5 1 (W ++ encPrs (ps.take x)).length (byts (W ++ encPrs (ps.take x)))]) (fun x => G') (fun x => x ≤ ps.length) (fun x => ps.length - x) 0
      (Nat.zero_le _) (by simp [encPrs, encL]) rfl ?_ ?_
    ·
      refine ⟨?_⟩
      (conv => whnf)
      (repeat' (first | exact trivial | exact .inl rfl | exact .inr rfl | refine And.intro ?_ ?_))
    intro j hj
    have hw3 : IntKind.i64.wrap ((j : Int) + 1) = ((j + 1 : Nat) : Int) := by rw [i64_in (by omega) (by omega)]; simp
    have hpre := encPrs_take ps j
    have hpl3 : (W ++ encPrs (ps.take j)).length ≤ 720010 := by
      have := encPrs_mono ps j
      rw [List.length_append]; omega
    generalize hV : W ++ encPrs (ps.take j) = V at *
    repeat' ((fail_if_success with_reducible refine Stop.mk ?_);(conv=>whnf);with_reducible refine stop ?_)
    all_goals refine Stop.mk ?_
    obtain ⟨_, hs_, hat_⟩ := hl.at (sz := 1) rfl
    refine ⟨⟨by omega, by omega⟩, _, hs_, fun ad had hadr => ?_⟩
    obtain ⟨u, cells, hu, hRu, hGu⟩ := hat_ k (by omega) ad (by first | exact had | (rw [Int.toNat_natCast] at had; exact had))
    clear had hat_ hs_
    obtain ⟨Au, cu, rfl, Su⟩ := kPrs_R hRu
    obtain rfl := Option.some.inj (hps.symm.trans hu)
    repeat' ((fail_if_success with_reducible refine Stop.mk ?_);(conv=>whnf);with_reducible refine stop ?_)
    all_goals refine Stop.mk ?_
    refine ⟨_, ld1 hGu, ?_⟩
    repeat' ((fail_if_success with_reducible refine Stop.mk ?_);(conv=>whnf);with_reducible first|refine br_d (fun h=>?_) fun h=>?_|refine stop ?_)
    all_goals refine Stop.mk ?_
    ·
      obtain ⟨_, hs_, hat_⟩ := hl.at (sz := 1) rfl
      refine ⟨⟨by omega, by omega⟩, _, hs_, fun ad had hadr => ?_⟩
      obtain ⟨w, cells, hw, hRw, hGw⟩ := hat_ k (by omega) ad (by first | exact had | (rw [Int.toNat_natCast] at had; exact had))
      clear had hat_ hs_
      obtain ⟨Aw, cw, rfl, Sw⟩ := kPrs_R hRw
      obtain rfl := Option.some.inj (hps.symm.trans hw)
      repeat' ((fail_if_success with_reducible refine Stop.mk ?_);(conv=>whnf);with_reducible refine stop ?_)
      all_goals refine Stop.mk ?_
      refine ⟨_, ld1 hGw, ?_⟩
      repeat' ((fail_if_success with_reducible refine Stop.mk ?_);(conv=>whnf);with_reducible refine stop ?_)
      all_goals refine Stop.mk ?_
      obtain ⟨_, hs_, hat_⟩ := Sw.at (sz := 2) rfl
      refine ⟨⟨by omega, by omega⟩, _, hs_, fun ad had hadr => ?_⟩
      obtain ⟨p, cells, hp, hRp, hGp⟩ := hat_ j (by omega) ad (by first | exact had | (rw [Int.toNat_natCast] at had; exact had))
      clear had hat_ hs_
      obtain ⟨rfl, hp1, hp2⟩ := hRp
      replace hpre := hpre p hp
      have hnxt := stK_next ps j p hp
      have hcap3 := Sw.cap
      repeat' ((fail_if_success with_reducible refine Stop.mk ?_);(conv=>whnf);with_reducible refine stop ?_)
      all_goals refine Stop.mk ?_
      refine ⟨_, rfl, hGp, ?_⟩
      repeat' ((fail_if_success with_reducible refine Stop.mk ?_);(conv=>whnf);with_reducible first|refine br_e (fun h=>?_) fun h=>?_|refine drw (by kernel_rfl) ?_|refine stop ?_)
      all_goals refine Stop.mk ?_
      · have hj0 : j = 0 := by omega
        subst hj0
        refine call_fn [0] (r19put_fn _ V p.v (by omega)) rfl ⟨rfl, trivial⟩ (by decide) ?_
        rintro sv H' G' ⟨rfl, rfl, rfl⟩ -
        refine ⟨Nat.le_of_ble_eq_true rfl, ?_⟩
        have hplv := pU_len p.v
        repeat' ((fail_if_success with_reducible refine Stop.mk ?_);(conv=>whnf);with_reducible refine stop ?_)
        all_goals refine Stop.mk ?_
        refine call_fn [0] (r19put_fn _ (V ++ pU p.v) p.l (by rw [List.length_append]; omega)) rfl ⟨rfl, trivial⟩ (by decide) ?_
        rintro sv H' G' ⟨rfl, rfl, rfl⟩ -
        refine ⟨Nat.le_of_ble_eq_true rfl, ?_⟩
        repeat' ((fail_if_success with_reducible refine Stop.mk ?_);(conv=>whnf);with_reducible refine stop ?_)
        all_goals refine Stop.mk ?_
        rw [hw3]
        refine tell_gc hE [0] rfl rfl ?_
        (conv => whnf)
        refine tell_here ⟨0 + 1, by show 0 + 1 ≤ _; omega, by show ps.length - (0 + 1) < ps.length - 0; omega, ?_, rfl, ?_⟩
        · have e : W ++ (encPrs (ps.take 0) ++ encPr (stK ps 0) p) = V ++ pU p.v ++ pU p.l := by
            rw [← hV]
            simp [encPr, stK, ps0, pr0]
          rw [hpre, e]
        ·
          refine ⟨?_⟩
          (conv => whnf)
          (repeat' (first | exact trivial | exact .inl rfl | exact .inr rfl | refine And.intro ?_ ?_))
      · obtain ⟨j', rfl⟩ : ∃ j', j = j' + 1 := ⟨j - 1, by omega⟩
        have hw4 : IntKind.i64.wrap (((j' + 1 : Nat) : Int) - 1) = (j' : Int) := by rw [i64_in (by omega) (by omega)]; omega
        obtain ⟨_, hs_, hat_⟩ := hl.at (sz := 1) rfl
        refine ⟨⟨by omega, by omega⟩, _, hs_, fun ad had hadr => ?_⟩
        obtain ⟨z, cells, hz, hRz, hGz⟩ := hat_ k (by omega) ad (by first | exact had | (rw [Int.toNat_natCast] at had; exact had))
        clear had hat_ hs_
        obtain ⟨Az, cz, rfl, Sz⟩ := kPrs_R hRz
        obtain rfl := Option.some.inj (hps.symm.trans hz)
        repeat' ((fail_if_success with_reducible refine Stop.mk ?_);(conv=>whnf);with_reducible refine stop ?_)
        all_goals refine Stop.mk ?_
        refine ⟨_, ld1 hGz, ?_⟩
        repeat' ((fail_if_success with_reducible refine Stop.mk ?_);(conv=>whnf);with_reducible refine stop ?_)
        all_goals refine Stop.mk ?_
        rw [hw4]
        obtain ⟨_, hs_, hat_⟩ := Sz.at (sz := 2) rfl
        refine ⟨⟨by omega, by omega⟩, _, hs_, fun ad had hadr => ?_⟩
        obtain ⟨q, cells, hq, hRq, hGq⟩ := hat_ j' (by omega) ad (by first | exact had | (rw [Int.toNat_natCast] at had; exact had))
        clear had hat_ hs_
        obtain ⟨rfl, hq1, hq2⟩ := hRq
        have hst := stK_next ps j' q hq
        rw [hst] at hpre
        repeat' ((fail_if_success with_reducible refine Stop.mk ?_);(conv=>whnf);with_reducible refine stop ?_)
        all_goals refine Stop.mk ?_
        refine ⟨_, rfl, hGq, ?_⟩
        repeat' ((fail_if_success with_reducible refine Stop.mk ?_);(conv=>whnf);with_reducible refine stop ?_)
        all_goals refine Stop.mk ?_
        refine call_fn [0] (r19put_fn _ V (IntKind.i64.wrap (p.v - q.v)) (by omega)) rfl ⟨rfl, trivial⟩ (by decide) ?_
        rintro sv H' G' ⟨rfl, rfl, rfl⟩ -
        refine ⟨Nat.le_of_ble_eq_true rfl, ?_⟩
        rw [pU_wrap]
        have hplv := pU_len (p.v - q.v)
        repeat' ((fail_if_success with_reducible refine Stop.mk ?_);(conv=>whnf);with_reducible first|refine br_e (fun h=>?_) fun h=>?_|refine stop ?_)
        all_goals refine Stop.mk ?_
        · have hvq : p.v = q.v := by assumption
          refine call_fn [0] (r19put_fn _ (V ++ pU (p.v - q.v)) _ (by rw [List.length_append]; omega)) rfl ⟨rfl, trivial⟩ (by decide) ?_
          rintro sv H' G' ⟨rfl, rfl, rfl⟩ -
          refine ⟨Nat.le_of_ble_eq_true rfl, ?_⟩
          rw [pU_wrap2]
          repeat' ((fail_if_success with_reducible refine Stop.mk ?_);(conv=>whnf);with_reducible refine stop ?_)
          all_goals refine Stop.mk ?_
          rw [hw3]
          refine tell_gc hE [0] rfl rfl ?_
          (conv => whnf)
          refine tell_here ⟨j' + 1 + 1, by show j' + 1 + 1 ≤ _; omega, by show ps.length - (j' + 1 + 1) < ps.length - (j' + 1); omega, ?_, rfl, ?_⟩
          · have e : W ++ (encPrs (ps.take (j' + 1)) ++ encPr (false, q) p) = V ++ pU (p.v - q.v) ++ pU (p.l - q.l - 1) := by
              rw [← hV]
              unfold encPr
              dsimp only
              rw [if_neg (by rintro (h9 | h9)
                             · exact absurd h9 (by decide)
                             · exact h9 hvq)]
              simp only [List.append_assoc]
            rw [hpre, e]
          ·
            refine ⟨?_⟩
            (conv => whnf)
            (repeat' (first | exact trivial | exact .inl rfl | exact .inr rfl | refine And.intro ?_ ?_))
        · have hvq : p.v ≠ q.v := by assumption
          refine call_fn [0] (r19put_fn _ (V ++ pU (p.v - q.v)) _ (by rw [List.length_append]; omega)) rfl ⟨rfl, trivial⟩ (by decide) ?_
          rintro sv H' G' ⟨rfl, rfl, rfl⟩ -
          refine ⟨Nat.le_of_ble_eq_true rfl, ?_⟩
          repeat' ((fail_if_success with_reducible refine Stop.mk ?_);(conv=>whnf);with_reducible refine stop ?_)
          all_goals refine Stop.mk ?_
          rw [hw3]
          refine tell_gc hE [0] rfl rfl ?_
          (conv => whnf)
          refine tell_here ⟨j' + 1 + 1, by show j' + 1 + 1 ≤ _; omega, by show ps.length - (j' + 1 + 1) < ps.length - (j' + 1); omega, ?_, rfl, ?_⟩
          · have e : W ++ (encPrs (ps.take (j' + 1)) ++ encPr (false, q) p) = V ++ pU (p.v - q.v) ++ pU p.l := by
              rw [← hV]
              unfold encPr
              dsimp only
              rw [if_pos (.inr hvq)]
              simp only [List.append_assoc]
            rw [hpre, e]
          ·
            refine ⟨?_⟩
            (conv => whnf)
            (repeat' (first | exact trivial | exact .inl rfl | exact .inr rfl | refine And.intro ?_ ?_))
    · obtain rfl : j = ps.length := by omega
      refine Stop.mk (hK0 _ _ ?_)
      clear hK0
      repeat' ((fail_if_success with_reducible refine Stop.mk ?_);(conv=>whnf);with_reducible refine stop ?_)
      all_goals refine Stop.mk ?_
      rw [hw2]
      refine tell_gc hE [0] rfl rfl ?_
      (conv => whnf)
      refine tell_here ⟨(k + 1, _), ⟨by show k + 1 ≤ _; omega, hl⟩, by show l.length - (k + 1) < l.length - k; omega, ?_, rfl, ?_⟩
      · dsimp only
        rw [hstep, ← hV, ← hW, List.take_length]
        simp only [List.append_assoc]
      ·
        refine ⟨?_⟩
        (conv => whnf)
        (repeat' (first | exact trivial | exact .inl rfl | exact .inr rfl | refine And.intro ?_ ?_))
  · obtain rfl : k = l.length := by omega
    rw [List.take_length]
    refine fin_done 0 rfl (byts_one _) fun A2 c2 G2 hg hs => fin_id hE 0 rfl rfl rfl rfl ⟨⟨A2, c2, rfl, hs⟩, rfl⟩
end Go.Proofs.YtchebkpcgglllaaGreat.Cu
