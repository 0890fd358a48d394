/- Invariants: what is read. -/
import Derived.Test.YtchebkpcgglllaaGreatWix
import Derived.Test.YtchebkpcgglllaaGreatSXc
namespace Go.Proofs.YtchebkpcgglllaaGreat.Cu
open Go Go.SX Go.Proofs.YtchebkpcgglllaaGreat.VT
set_option maxRecDepth 100000
set_option linter.unusedVariables false
set_option linter.unusedSimpArgs false

def prv (x : Pr) : List Value := [.int .i64 x.v, .int .i64 x.l]
def kPr : Kd Pr where
  sz := 2
  R _ x cs := cs = prv x ∧ in64 x.v ∧ in64 x.l
  len h := by rw [h.1]; rfl
  one h := by rw [h.1]; intro v hv; simp [prv] at hv; rcases hv with rfl | rfl <;> rfl
  mono _ h := h
def kPrs : Kd (List Pr) := kS kPr
/-- What a reader of invariants comes to. -/
def InvPost (l : List (List Pr)) (sv : SV) (G' : Gh) : Prop := ∃ A c, sv = .v (.slice A l.length c) ∧ kPrs.S G' A c l
theorem sNum_rng2 {bound why : Int} {p : Ps} (hb : isB p.1) : 0 ≤ (sNum bound why p).1 ∧ ((sNum bound why p).1 < bound ∨ (sNum bound why p).1 = 0) := by
  have h := sUint_range (most := maxU) hb
  unfold sNum
  split
  · exact ⟨Int.le_refl _, .inr rfl⟩
  · exact ⟨h.1, .inl (by omega)⟩
/-- A pair that was read without an error. -/
theorem sPr_rng {vregs regs slots : Int} {s : PS} {p : Ps} (hb : isB p.1) (hv : vregs ≤ 1000000000) (hr : regs ≤ 1000000000) (hs : slots ≤ 1000000000) (hg : goodS vregs s) (hl : s.2.l ≤ 3000000000) :
    (in64 (sPr vregs regs slots s p).1.v ∧ in64 (sPr vregs regs slots s p).1.l) ∧ ((sPr vregs regs slots s p).2.2 = 0 → (goodS vregs (false, (sPr vregs regs slots s p).1) ∧ (sPr vregs regs slots s p).1.l ≤ 3000000000) ∧ stP vregs s p (sPr vregs regs slots s p).1 = nxP s (sPr vregs regs slots s p).1) := by
  obtain ⟨g1, g2, g3⟩ := hg
  have h1 := sNum_rng2 (bound := vregs - s.2.v) (why := 9) hb
  have hb2 : isB (sNum (vregs - s.2.v) 9 p).2.1 := fun x hx => hb x ((sNum_suf _ _ _).subset hx)
  have h2 := sNum_rng2 (bound := 1099511627777) (why := 10) hb2
  unfold sPr stP sDv sDl
  dsimp only
  generalize sNum (vregs - s.2.v) 9 p = a at *
  generalize sNum 1099511627777 10 a.2 = d at *
  by_cases hd : d.2.2 = 0
  · rw [if_neg (by rw [hd]; simp)]
    dsimp only
    have hm : (mkPr s a.1 d.1).v = s.2.v + a.1 ∧ 0 ≤ (mkPr s a.1 d.1).l ∧ (mkPr s a.1 d.1).l ≤ 3000000000 + 1 + 1099511627777 := by
      unfold mkPr
      dsimp only
      refine ⟨rfl, ?_⟩
      split <;> omega
    refine ⟨⟨by unfold in64; omega, by unfold in64; omega⟩, ?_⟩
    split
    · rename_i hin
      have hin2 : (mkPr s a.1 d.1).l ≤ 3000000000 := by unfold inRange at hin; omega
      intro _
      refine ⟨⟨⟨?_, ?_, hin.1⟩, hin2⟩, ?_⟩
      · dsimp only; omega
      · dsimp only; omega
      · rw [if_neg (by rw [hd]; simp)]; rfl
    · intro h; exact absurd h (sFail_ne (by decide))
  · rw [if_pos hd]
    exact ⟨⟨by unfold in64 pr0; simp, by unfold in64 pr0; simp⟩, fun h => absurd h hd⟩
theorem ps0_l : ps0.2.l ≤ 3000000000 := by unfold ps0 pr0; decide
theorem sBlk_suf (vregs regs slots t : Int) (p : Ps) : (sBlk vregs regs slots t p).2.1 <:+ p.1 := (rep_suf (fun s p => sPr_suf _ _ _ s p) _ _ _).trans (cntC_suf _ _ _ _ _)
set_option maxHeartbeats 8000000 in
theorem get_inv_fn {G : Gh} {A : Option Addr} {bs : List Int} {c : Nat} {p : Ps} (blocks vregs regs slots : Int) (hC : CurOK G A c bs p) (hb : 0 ≤ blocks ∧ blocks ≤ 2000000) (hv : 0 ≤ vregs ∧ vregs ≤ 1000000000) (hr : regs ≤ 1000000000) (hs : slots ≤ 1000000000) :
    Ct Tryz.prog 33 [.p 0 0, .v (.int .i64 blocks), .v (.int .i64 vregs), .v (.int .i64 regs), .v (.int .i64 slots)] [curL A bs c p] G fun sv H' G' =>
      InvPost (if (sInv vregs regs slots blocks p).2.2 = 0 then (sInv vregs regs slots blocks p).1 else []) sv G' ∧ H' = [curL A bs c (sInv vregs regs slots blocks p).2] := by
  refine fn_of follows [] Tryz.func33 rfl rfl fun E hE => ?_
  repeat' ((fail_if_success with_reducible refine Stop.mk ?_);(conv=>whnf);with_reducible refine stop ?_)
  all_goals refine Stop.mk ?_
  refine loop_gh (gh_birth 11 52 1 rfl) ?_
  rintro _ _ ⟨rfl, rfl⟩
  refine loop_vars follows [] (α := Nat × Int × Ps × List (List Pr) × List Value × Gh) (fun x => [(11, .s 1), (12, .v (.int .i64 x.2.1)), (13, .v (.int .i64 x.1))])
    (fun x => [curL A bs c x.2.2.1, .row 52 1 x.1 x.2.2.2.2.1]) (fun x => x.2.2.2.2.2)
    (fun x => x.1 ≤ blocks.toNat ∧ CurOK x.2.2.2.2.2 A c bs x.2.2.1 ∧ x.2.2.2.1.length = x.1 ∧ kPrs.Cs x.2.2.2.2.2 x.2.2.2.1 x.2.2.2.2.1 ∧ Run (sBlk vregs regs slots) nxT blocks.toNat 0 p x.1 x.2.1 x.2.2.1 x.2.2.2.1 ∧ (x.2.2.1.2 = 0 → 0 ≤ x.2.1 ∧ x.2.1 ≤ 1048576))
    (fun x => blocks.toNat - x.1) (0, 0, p, [], [], G)
    ⟨Nat.zero_le _, hC, rfl, Kd.Cs.nil _ _, Run.start _ _ _, fun _ => ⟨Int.le_refl _, by dsimp only; decide⟩⟩ rfl rfl ?_ ?_
  ·
    refine ⟨?_⟩
    (conv => whnf)
    (repeat' (first | exact trivial | exact .inl rfl | exact .inr rfl | refine And.intro ?_ ?_))
  clear hC
  rintro ⟨k, t, p1, os, vals, Gk⟩ ⟨hk, hC, hol, hvals, hrun, ht⟩
  dsimp only at hk hC hol hvals hrun ht ⊢
  have hw2 : IntKind.i64.wrap ((k : Int) + 1) = ((k + 1 : Nat) : Int) := by rw [i64_in (by omega) (by omega)]; simp
  have hexit : ∀ (hd : blocks.toNat ≤ k ∨ p1.2 ≠ 0), sInv vregs regs slots blocks p = (os, p1) := fun hd => hrun.done hd
  repeat' ((fail_if_success with_reducible refine Stop.mk ?_);(conv=>whnf);with_reducible first|refine br_f ?_|refine br_d (fun h=>?_) fun h=>?_|refine stop ?_)
  all_goals refine Stop.mk ?_
  ·
    refine call_fn [0] (perr_fn (p := p1)) rfl ⟨rfl, trivial⟩ (by decide) ?_
    rintro sv H' G' ⟨rfl, rfl, rfl⟩ -
    refine ⟨Nat.le_of_ble_eq_true rfl, ?_⟩
    repeat' ((fail_if_success with_reducible refine Stop.mk ?_);(conv=>whnf);with_reducible first|refine br_e (fun h=>?_) fun h=>?_|refine stop ?_)
    all_goals refine Stop.mk ?_
    · have hp0 : p1.2 = 0 := by assumption
      obtain ⟨ht1, ht2⟩ := ht hp0
      have hcr := sCount_range (most := 1048576) (size := 2) hC.isb (by decide)
      refine call_fn [0] (pcount_fn 1048576 2 hC (by decide) (by decide)) rfl ⟨rfl, trivial⟩ (by decide) ?_
      rintro sv H' G' ⟨rfl, rfl, rfl⟩ -
      refine ⟨Nat.le_of_ble_eq_true rfl, ?_⟩
      have hw3 : IntKind.i64.wrap (t + (sCount 1048576 2 p1).1) = t + (sCount 1048576 2 p1).1 := i64_in (by omega) (by omega)
      obtain ⟨q, hq⟩ : ∃ q, q = cntC 1048576 2 6 (fun n => decide (t + n ≤ 1048576)) p1 := ⟨_, rfl⟩
      have hq1 : q.1 = (sCount 1048576 2 p1).1 := by rw [hq]; rfl
      have hCq : CurOK _ A c bs q.2 := hq ▸ hC.next (cntC_suf _ _ _ _ _)
      have hq3 : q.2.2 = 0 → t + q.1 ≤ 1048576 := by
        rw [hq]; intro h0; unfold cntC at h0 ⊢; dsimp only at h0 ⊢
        split at h0
        · rename_i hg; exact of_decide_eq_true hg
        · exact absurd h0 (sFail_ne (by decide))
      have hblk : sBlk vregs regs slots t p1 = sPrs vregs regs slots q.1 q.2 := by rw [hq]; rfl
      repeat' ((fail_if_success with_reducible refine Stop.mk ?_);(conv=>whnf);with_reducible first|refine br_d (fun h=>?_) fun h=>?_|refine stop ?_)
      all_goals refine Stop.mk ?_
      all_goals rw [hw3] at h ⊢
      all_goals try
        refine call_fn [0] (pfail_fn 6 (p := (sCount 1048576 2 p1).2)) rfl ⟨rfl, trivial⟩ (by decide) ?_
        rintro sv H' G' ⟨rfl, rfl, rfl⟩ -
        refine ⟨Nat.le_of_ble_eq_true rfl, ?_⟩
        have hq2 : sFail 6 (sCount 1048576 2 p1).2 = q.2 := by rw [hq]; unfold cntC; rw [if_neg (by simp only [decide_eq_true_eq]; omega)]
        rw [hq2]
        repeat' ((fail_if_success with_reducible refine Stop.mk ?_);(conv=>whnf);with_reducible refine stop ?_)
        all_goals refine Stop.mk ?_
      all_goals try
        have hq2 : (sCount 1048576 2 p1).2 = q.2 := by rw [hq]; unfold cntC; rw [if_pos (by simp only [decide_eq_true_eq]; omega)]
        rw [hq2]
      all_goals
        clear hq2 hw3 h
        rw [← hq1] at hcr ⊢
        clear hq1 hq
        refine call_fn [0] (decoder_fn vregs regs slots) rfl ⟨rfl, trivial⟩ (by decide) ?_
        rintro sv H' G' ⟨rfl, rfl, rfl⟩ -
        refine ⟨Nat.le_of_ble_eq_true rfl, ?_⟩
        repeat' ((fail_if_success with_reducible refine Stop.mk ?_);(conv=>whnf);with_reducible refine stop ?_)
        all_goals refine Stop.mk ?_
      all_goals
        refine loop_opq fun K0 hK0 => ?_
        refine loop_gh (gh_birth 16 55 2 rfl) ?_
        rintro _ _ ⟨rfl, rfl⟩
        refine loop_vars follows [] (α := Nat × PS × Ps × List Pr × List Value) (fun x => [(16, .s 8), (17, .v (.int .i64 x.1))])
          (fun x => [curL A bs c x.2.2.1, .row 52 1 k vals, .cells 77 [.p 0 0], .cells 3 [.v (.int .i64 vregs)], .cells 3 [.v (.int .i64 regs)], .cells 3 [.v (.int .i64 slots)], prO x.2.1.2, blO x.2.1.1, .row 55 2 x.1 x.2.2.2.2]) (fun x => G')
          (fun x => x.1 ≤ q.1.toNat ∧ CurOK G' A c bs x.2.2.1 ∧ x.2.2.2.1.length = x.1 ∧ kPr.Cs G' x.2.2.2.1 x.2.2.2.2 ∧ Run (sPr vregs regs slots) nxP q.1.toNat ps0 q.2 x.1 x.2.1 x.2.2.1 x.2.2.2.1 ∧ (x.2.2.1.2 = 0 → goodS vregs x.2.1 ∧ x.2.1.2.l ≤ 3000000000))
          (fun x => q.1.toNat - x.1) (0, ps0, q.2, [], [])
          ⟨Nat.zero_le _, hCq, rfl, Kd.Cs.nil _ _, Run.start _ _ _, fun _ => ⟨ps0_good hv.1, ps0_l⟩⟩ rfl rfl ?_ ?_
        ·
          refine ⟨?_⟩
          (conv => whnf)
          (repeat' (first | exact trivial | exact .inl rfl | exact .inr rfl | refine And.intro ?_ ?_))
        clear hC
        rintro ⟨k2, s2, p2, ps, vals2⟩ ⟨hk2, hC, hpl, hvals2, hrun2, hgd⟩
        dsimp only at hk2 hC hpl hvals2 hrun2 hgd ⊢
        have hw4 : IntKind.i64.wrap ((k2 : Int) + 1) = ((k2 + 1 : Nat) : Int) := by rw [i64_in (by omega) (by omega)]; simp
        have hexit2 : ∀ (hd : q.1.toNat ≤ k2 ∨ p2.2 ≠ 0), sBlk vregs regs slots t p1 = (ps, p2) := fun hd => by rw [hblk]; exact hrun2.done hd
        have hkk0 : k < blocks.toNat := by omega
        have hnx : sBlk vregs regs slots t p1 = (ps, p2) → p2.2 = 0 → t + q.1 = nxT t ps ∧ (0 ≤ t + q.1 ∧ t + q.1 ≤ 1048576) := by
          intro h1 h0
          rw [hblk] at h1
          have h2 := rep_full (f := sPr vregs regs slots) (nx := nxP) q.1.toNat ps0 q.2
          rw [show rep (sPr vregs regs slots) nxP q.1.toNat ps0 q.2 = (ps, p2) from h1] at h2
          have h3 := h2 h0
          dsimp only at h3
          have h4 : q.2.2 = 0 := by
            rcases Decidable.em (q.2.2 = 0) with h5 | h5
            · exact h5
            · have := sPrs_st (vregs := vregs) (regs := regs) (slots := slots) (n := q.1) h5
              rw [h1] at this
              rw [← this]; exact h0
          have := hq3 h4
          unfold nxT
          omega
        repeat' ((fail_if_success with_reducible refine Stop.mk ?_);(conv=>whnf);with_reducible first|refine br_f ?_|refine br_d (fun h=>?_) fun h=>?_|refine stop ?_)
        all_goals refine Stop.mk ?_
        ·
          refine call_fn [0] (perr_fn (p := p2)) rfl ⟨rfl, trivial⟩ (by decide) ?_
          rintro sv H' G' ⟨rfl, rfl, rfl⟩ -
          refine ⟨Nat.le_of_ble_eq_true rfl, ?_⟩
          repeat' ((fail_if_success with_reducible refine Stop.mk ?_);(conv=>whnf);with_reducible first|refine br_e (fun h=>?_) fun h=>?_|refine stop ?_)
          all_goals refine Stop.mk ?_
          · have hp20 : p2.2 = 0 := by assumption
            have hkk : k2 < q.1.toNat := by omega
            obtain ⟨hg1, hg2⟩ := hgd hp20
            have hrg := sPr_rng (regs := regs) (slots := slots) hC.isb hv.2 hr hs hg1 hg2
            have hnext := hrun2.next hkk hp20 (x := (sPr vregs regs slots s2 p2).1) (p' := (sPr vregs regs slots s2 p2).2) rfl
            refine call_fn [0, 2, 3, 4, 5, 6, 7] (dec1_fn vregs regs slots s2 hC hv.2 hg1 (by omega)) rfl ⟨rfl, rfl, rfl, rfl, rfl, rfl, rfl, trivial⟩ (by decide) ?_
            rintro sv H' G' ⟨rfl, rfl, rfl⟩ -
            refine ⟨Nat.le_of_ble_eq_true rfl, ?_⟩
            replace hC := hC.next (sPr_suf vregs regs slots s2 p2)
            generalize hxp : sPr vregs regs slots s2 p2 = xp at *
            generalize stP vregs s2 p2 xp.1 = s3 at *
            obtain ⟨x, p3⟩ := xp
            dsimp only at hC hrg hnext ⊢
            repeat' ((fail_if_success with_reducible refine Stop.mk ?_);(conv=>whnf);with_reducible refine stop ?_)
            all_goals refine Stop.mk ?_
            refine ⟨by simp [Value.oneCell'], ⟨by show (k2 + 1) * 16 ≤ _; omega, ?_⟩⟩
            repeat' ((fail_if_success with_reducible refine Stop.mk ?_);(conv=>whnf);with_reducible refine stop ?_)
            all_goals refine Stop.mk ?_
            rw [hw4]
            refine tell_gc hE [0, 1, 2, 3, 4, 5, 6, 7, 8] rfl rfl ?_
            (conv => whnf)
            refine tell_here ⟨(k2 + 1, s3, p3, ps ++ [x], vals2 ++ prv x), ⟨by show k2 + 1 ≤ _; omega, hC, by simp [hpl], ?_, ?_, ?_⟩, by show q.1.toNat - (k2 + 1) < q.1.toNat - k2; omega, rfl, rfl, ?_⟩
            · exact hvals2.snoc ⟨rfl, hrg.1⟩
            · exact hnext s3 (fun h0 => (hrg.2 h0).2)
            · intro h0
              have := hrg.2 h0
              dsimp only
              rw [this.2]
              exact this.1
            ·
              refine ⟨?_⟩
              (conv => whnf)
              (repeat' (first | exact trivial | exact .inl rfl | exact .inr rfl | refine And.intro ?_ ?_))
          · refine Stop.mk (hK0 _ _ ?_)
            have he2 := hexit2 (by first | exact .inl (by omega) | exact .inr (by assumption))
            clear hK0
            repeat' ((fail_if_success with_reducible refine Stop.mk ?_);(conv=>whnf);with_reducible refine stop ?_)
            all_goals refine Stop.mk ?_
            refine ⟨hvals2.ones, fun A2 c2 G2 hg2 hs2 _ => ⟨by show (k + 1) * 24 ≤ _; omega, ?_⟩⟩
            replace hC := hC.to hg2
            replace hvals := hvals.to hg2
            replace hvals2 := hvals2.to hg2
            clear hg2
            repeat' ((fail_if_success with_reducible refine Stop.mk ?_);(conv=>whnf);with_reducible refine stop ?_)
            all_goals refine Stop.mk ?_
            rw [hw2]
            refine tell_gc hE [0, 1] rfl rfl ?_
            (conv => whnf)
            refine tell_here ⟨(k + 1, t + q.1, p2, os ++ [ps], vals ++ [.slice A2 k2 c2], G2), ⟨by show k + 1 ≤ _; omega, hC, by simp [hol], ?_, ?_, ?_⟩, by show blocks.toNat - (k + 1) < blocks.toNat - k; omega, rfl, rfl, ?_⟩
            · exact hvals.snoc ⟨A2, c2, by rw [hpl], Kd.S.of hs2 hpl.symm rfl hvals2⟩
            · exact hrun.next hkk0 hp0 he2 _ (fun h0 => (hnx he2 h0).1)
            · intro h0; exact (hnx he2 h0).2
            ·
              refine ⟨?_⟩
              (conv => whnf)
              (repeat' (first | exact trivial | exact .inl rfl | exact .inr rfl | refine And.intro ?_ ?_))
        · refine Stop.mk (hK0 _ _ ?_)
          have he2 := hexit2 (by first | exact .inl (by omega) | exact .inr (by assumption))
          clear hK0
          repeat' ((fail_if_success with_reducible refine Stop.mk ?_);(conv=>whnf);with_reducible refine stop ?_)
          all_goals refine Stop.mk ?_
          refine ⟨hvals2.ones, fun A2 c2 G2 hg2 hs2 _ => ⟨by show (k + 1) * 24 ≤ _; omega, ?_⟩⟩
          replace hC := hC.to hg2
          replace hvals := hvals.to hg2
          replace hvals2 := hvals2.to hg2
          clear hg2
          repeat' ((fail_if_success with_reducible refine Stop.mk ?_);(conv=>whnf);with_reducible refine stop ?_)
          all_goals refine Stop.mk ?_
          rw [hw2]
          refine tell_gc hE [0, 1] rfl rfl ?_
          (conv => whnf)
          refine tell_here ⟨(k + 1, t + q.1, p2, os ++ [ps], vals ++ [.slice A2 k2 c2], G2), ⟨by show k + 1 ≤ _; omega, hC, by simp [hol], ?_, ?_, ?_⟩, by show blocks.toNat - (k + 1) < blocks.toNat - k; omega, rfl, rfl, ?_⟩
          · exact hvals.snoc ⟨A2, c2, by rw [hpl], Kd.S.of hs2 hpl.symm rfl hvals2⟩
          · exact hrun.next hkk0 hp0 he2 _ (fun h0 => (hnx he2 h0).1)
          · intro h0; exact (hnx he2 h0).2
          ·
            refine ⟨?_⟩
            (conv => whnf)
            (repeat' (first | exact trivial | exact .inl rfl | exact .inr rfl | refine And.intro ?_ ?_))
    ·
      refine call_fn [0] (perr_fn (p := p1)) rfl ⟨rfl, trivial⟩ (by decide) ?_
      rintro sv H' G' ⟨rfl, rfl, rfl⟩ -
      refine ⟨Nat.le_of_ble_eq_true rfl, ?_⟩
      repeat' ((fail_if_success with_reducible refine Stop.mk ?_);(conv=>whnf);with_reducible first|refine br_n (fun h=>?_) fun h=>?_|refine stop ?_)
      all_goals refine Stop.mk ?_
      all_goals
        have he := hexit (by first | exact .inl (by omega) | exact .inr (by assumption))
        first
          | (have h0 : p1.2 ≠ 0 := by assumption
             refine fin_id hE 1 rfl rfl rfl rfl ?_
             rw [he]; dsimp only; rw [if_neg h0]
             exact ⟨⟨none, 0, rfl, Kd.S.none_ _ _⟩, rfl⟩)
          | (have h0 : p1.2 = 0 := by assumption
             refine fin_done 1 rfl hvals.ones fun A2 c2 G2 hg hs => fin_id hE 1 rfl rfl rfl rfl ?_
             rw [he]; dsimp only; rw [if_pos h0]
             exact ⟨⟨A2, c2, by rw [hol]; rfl, Kd.S.of hs hol.symm rfl (hvals.to hg)⟩, rfl⟩)
  ·
    refine call_fn [0] (perr_fn (p := p1)) rfl ⟨rfl, trivial⟩ (by decide) ?_
    rintro sv H' G' ⟨rfl, rfl, rfl⟩ -
    refine ⟨Nat.le_of_ble_eq_true rfl, ?_⟩
    repeat' ((fail_if_success with_reducible refine Stop.mk ?_);(conv=>whnf);with_reducible first|refine br_n (fun h=>?_) fun h=>?_|refine stop ?_)
    all_goals refine Stop.mk ?_
    all_goals
      have he := hexit (by first | exact .inl (by omega) | exact .inr (by assumption))
      first
        | (have h0 : p1.2 ≠ 0 := by assumption
           refine fin_id hE 1 rfl rfl rfl rfl ?_
           rw [he]; dsimp only; rw [if_neg h0]
           exact ⟨⟨none, 0, rfl, Kd.S.none_ _ _⟩, rfl⟩)
        | (have h0 : p1.2 = 0 := by assumption
           refine fin_done 1 rfl hvals.ones fun A2 c2 G2 hg hs => fin_id hE 1 rfl rfl rfl rfl ?_
           rw [he]; dsimp only; rw [if_pos h0]
           exact ⟨⟨A2, c2, by rw [hol]; rfl, Kd.S.of hs hol.symm rfl (hvals.to hg)⟩, rfl⟩)
end Go.Proofs.YtchebkpcgglllaaGreat.Cu
