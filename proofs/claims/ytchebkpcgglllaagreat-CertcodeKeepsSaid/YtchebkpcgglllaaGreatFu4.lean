/- Functions: the readers that the program passes on. -/
import Derived.Test.YtchebkpcgglllaaGreatFu2
namespace Go.Proofs.YtchebkpcgglllaaGreat.Cu
open Go Go.SX Go.Proofs.YtchebkpcgglllaaGreat.VT
set_option maxRecDepth 100000
set_option linter.unusedVariables false
set_option linter.unusedSimpArgs false

theorem in64_z : in64 0 := by unfold in64; omega
theorem sNum_in64 {bound why : Int} {p : Ps} (hb : isB p.1) (h : bound ≤ 9223372036854775807) : in64 (sNum bound why p).1 := by
  have hr := sUint_range (most := maxU) hb
  unfold sNum in64
  split
  · dsimp only; omega
  · omega
theorem optN_in64 {u : Bool} {bound why : Int} {p : Ps} (hb : isB p.1) (h : bound ≤ 9223372036854775807) : in64 (optN u bound why p).1 := by
  cases u
  · exact in64_z
  · exact sNum_in64 hb h
theorem optI_in64 {u : Bool} {p : Ps} (hb : isB p.1) : in64 (optI u p).1 := by
  cases u
  · exact in64_z
  · have hr := sUint_range (most := 18446744073709551615) hb
    exact unzig_range _ hr.1 hr.2.1
theorem isB_sub {l m : List Int} (h : isB m) (hs : l <:+ m) : isB l := fun x hx => h x (hs.subset hx)
theorem sIns_ok64 {regs : Int} {p : Ps} (hb : isB p.1) (h : regs ≤ 9223372036854775807) : (sIns regs p).1.ok := by
  have h0 := sByte_range hb
  have hb1 : isB (sFirst srcOp 8 p).2.1 := isB_sub hb (sFirst_suf _ _ _)
  unfold sIns sFlds
  dsimp only
  split
  · refine ⟨by unfold in64 sFirst; dsimp only; omega, optN_in64 hb1 h, optN_in64 (isB_sub hb1 (optN_suf _ _ _ _)) h, optN_in64 (isB_sub (isB_sub hb1 (optN_suf _ _ _ _)) (optN_suf _ _ _ _)) h, optI_in64 (isB_sub (isB_sub (isB_sub hb1 (optN_suf _ _ _ _)) (optN_suf _ _ _ _)) (optN_suf _ _ _ _))⟩
  · exact ⟨in64_z, in64_z, in64_z, in64_z, in64_z⟩
theorem sTrm_ok64 {regs blocks : Int} {p : Ps} (hb : isB p.1) (h : regs ≤ 9223372036854775807) (h2 : blocks ≤ 9223372036854775807) : (sTrm regs blocks p).1.ok := by
  have h0 := sByte_range hb
  have hb1 : isB (sFirst trmKind 16 p).2.1 := isB_sub hb (sFirst_suf _ _ _)
  unfold sTrm sTf
  dsimp only
  split
  · refine ⟨by unfold in64 sFirst; dsimp only; omega, optN_in64 hb1 h, optN_in64 (isB_sub hb1 (optN_suf _ _ _ _)) h2, optN_in64 (isB_sub (isB_sub hb1 (optN_suf _ _ _ _)) (optN_suf _ _ _ _)) h2⟩
  · exact ⟨in64_z, in64_z, in64_z, in64_z⟩
theorem fsize_fn {G : Gh} {A : Option Addr} {bs : List Int} {c : Nat} {p : Ps} (hC : CurOK G A c bs p) :
    Ct Tryz.prog 68 [.p 0 0] [curL A bs c p] G fun sv H' G' => sv = .v (.int .i64 (sUint 1048576 p).1) ∧ H' = [curL A bs c (sUint 1048576 p).2] ∧ G' = G := by
  have hr := sUint_range (most := 1048576) hC.isb
  refine fn_of follows [] Tryz.func68 rfl rfl fun E hE => ?_
  repeat' ((fail_if_success with_reducible refine Stop.mk ?_);(conv=>whnf);with_reducible refine stop ?_)
  all_goals refine Stop.mk ?_
  refine call_fn [0] (puint_fn 1048576 hC) rfl ⟨rfl, trivial⟩ (by decide) ?_
  rintro sv H' G' ⟨rfl, rfl, rfl⟩ -
  refine ⟨Nat.le_of_ble_eq_true rfl, ?_⟩
  repeat' ((fail_if_success with_reducible refine Stop.mk ?_);(conv=>whnf);with_reducible refine stop ?_)
  all_goals refine Stop.mk ?_
  rw [i64_in (n := (sUint 1048576 p).1) (by omega) (by omega)]
  exact fin_all ⟨rfl, rfl, rfl⟩
/-- What the readers share: the cursor's cell, the function's cell, its blocks. -/
def ccO : Ob := .cells 77 [.p 0 0]
def fO (a r : Int) : Ob := .cells 25 [.v (.int .i64 a), .v (.int .i64 r), .s 3]
def bkO (m : Nat) (vals : List Value) : Ob := .row 60 5 m vals
theorem func1_fn {G : Gh} {A : Option Addr} {bs : List Int} {c : Nat} {p : Ps} (a regs : Int) (m : Nat) (vals : List Value) (hC : CurOK G A c bs p) (hr : 0 ≤ regs ∧ regs ≤ 9223372036854775807) :
    Ct Tryz.prog 69 [.p 1 0, .p 2 0] [curL A bs c p, ccO, fO a regs, bkO m vals] G fun sv H' G' => sv = (sIns regs p).1.sv ∧ H' = [curL A bs c (sIns regs p).2, ccO, fO a regs, bkO m vals] ∧ G' = G := by
  refine fn_of follows [] Tryz.func69 rfl rfl fun E hE => ?_
  unfold ccO fO bkO
  repeat' ((fail_if_success with_reducible refine Stop.mk ?_);(conv=>whnf);with_reducible refine stop ?_)
  all_goals refine Stop.mk ?_
  refine call_fn [0] (ins_fn regs hC hr) rfl ⟨rfl, trivial⟩ (by decide) ?_
  rintro sv H' G' ⟨rfl, rfl, rfl⟩ -
  refine ⟨Nat.le_of_ble_eq_true rfl, ?_⟩
  repeat' ((fail_if_success with_reducible refine Stop.mk ?_);(conv=>whnf);with_reducible refine stop ?_)
  all_goals refine Stop.mk ?_
  exact fin_id hE 4 rfl rfl rfl rfl ⟨rfl, rfl, rfl⟩
theorem func2_fn {G : Gh} (a regs : Int) (m : Nat) (vals : List Value) (A : Option Addr) (n c : Nat) (t : Trm) (hm : m ≤ 2000000) :
    Ct Tryz.prog 72 [.v (.slice A n c), t.sv, .p 0 0] [.cells 25 [.v (.int .i64 a), .v (.int .i64 regs), .s 1], bkO m vals] G fun sv H' G' => sv = .tup [] ∧ H' = [.cells 25 [.v (.int .i64 a), .v (.int .i64 regs), .s 1], bkO (m + 1) (vals ++ (.slice A n c :: i64s t.l))] ∧ G' = G := by
  refine fn_of follows [] Tryz.func72 rfl rfl fun E hE => ?_
  unfold bkO
  repeat' ((fail_if_success with_reducible refine Stop.mk ?_);(conv=>whnf);with_reducible refine stop ?_)
  all_goals refine Stop.mk ?_
  refine ⟨by simp [Value.oneCell'], ⟨by show (m + 1) * 56 ≤ _; omega, ?_⟩⟩
  repeat' ((fail_if_success with_reducible refine Stop.mk ?_);(conv=>whnf);with_reducible refine stop ?_)
  all_goals refine Stop.mk ?_
  exact fin_id hE 2 rfl rfl rfl rfl ⟨rfl, rfl, rfl⟩
theorem sCode_suf (regs k : Int) (p : Ps) : (sCode regs k p).2.1 <:+ p.1 := rep_suf (fun _ p => sIns_suf _ p) _ _ _
theorem sBlkF_suf (regs n t : Int) (p : Ps) : (sBlkF regs n t p).2.1 <:+ p.1 := (sTrm_suf _ _ _).trans ((sCode_suf _ _ _).trans (cntC_suf _ _ _ _ _))
/-- What the blocks of a reader come to. -/
def BksPost (A : Option Addr) (bs : List Int) (c : Nat) (a regs : Int) (r : (Int × List Blk) × Ps) (sv : SV) (H' : List Ob) (G' : Gh) : Prop :=
  sv = .tup [] ∧ ∃ vals, H' = [curL A bs c r.2, ccO, fO a regs, bkO r.1.2.length vals] ∧ kBlk.Cs G' r.1.2 vals
set_option maxHeartbeats 8000000 in
theorem blocks_fn {G : Gh} {A : Option Addr} {bs : List Int} {c : Nat} {p : Ps} (a regs : Int) (hC : CurOK G A c bs p) (hr : 0 ≤ regs ∧ regs ≤ 9223372036854775807) :
    Ct Tryz.prog 71 [.p 0 0, .v (.int .i64 regs), .f (.func 69) [] [.p 1 0, .p 2 0], .f (.func 72) [] [.p 2 0]] [curL A bs c p, ccO, fO a regs, bkO 0 []] G (BksPost A bs c a regs (sBody regs p)) := by
  have hcr := sCount_range (most := 1048576) (size := 3) hC.isb (by decide)
  obtain ⟨q, hq⟩ : ∃ q, q = cntB p := ⟨_, rfl⟩
  have hq1 : q.1 = (sCount 1048576 3 p).1 := by rw [hq]; rfl
  have hCq : CurOK G A c bs q.2 := hq ▸ hC.next (cntC_suf _ _ _ _ _)
  have hbody : sBody regs p = ((q.1, (sBlks regs q.1 q.2).1), (sBlks regs q.1 q.2).2) := by rw [hq]; rfl
  rw [hbody]
  clear hbody
  refine fn_of follows [] Tryz.func71 rfl rfl fun E hE => ?_
  unfold ccO fO bkO
  repeat' ((fail_if_success with_reducible refine Stop.mk ?_);(conv=>whnf);with_reducible refine stop ?_)
  all_goals refine Stop.mk ?_
  refine call_fn [0] (pcount_fn 1048576 3 hC (by decide) (by decide)) rfl ⟨rfl, trivial⟩ (by decide) ?_
  rintro sv H' G' ⟨rfl, rfl, rfl⟩ -
  refine ⟨Nat.le_of_ble_eq_true rfl, ?_⟩
  repeat' ((fail_if_success with_reducible refine Stop.mk ?_);(conv=>whnf);with_reducible first|refine br_e (fun h=>?_) fun h=>?_|refine stop ?_)
  all_goals refine Stop.mk ?_
  ·
    refine call_fn [0] (pfail_fn 14 (p := (sCount 1048576 3 p).2)) rfl ⟨rfl, trivial⟩ (by decide) ?_
    rintro sv H' G' ⟨rfl, rfl, rfl⟩ -
    refine ⟨Nat.le_of_ble_eq_true rfl, ?_⟩
    have hq2 : sFail 14 (sCount 1048576 3 p).2 = q.2 := by rw [hq]; unfold cntB cntC; rw [if_neg (by simp only [decide_eq_true_eq]; omega)]
    rw [hq2]
    repeat' ((fail_if_success with_reducible refine Stop.mk ?_);(conv=>whnf);with_reducible refine stop ?_)
    all_goals refine Stop.mk ?_
    have hq0 : q.1 = 0 := by rw [hq1]; assumption
    rw [← hq1, hq0]
    refine loop_unroll follows [] 1 ?_
    repeat' ((fail_if_success with_reducible refine Stop.mk ?_);(conv=>whnf);first|with_reducible refine br_f ?_|((with_reducible refine br_d (fun h=>?_) fun h=>?_) <;> try (exfalso; omega))|with_reducible refine stop ?_)
    all_goals refine Stop.mk ?_
    have hz : sBlks regs 0 q.2 = ([], q.2) := rfl
    refine fin_id hE 4 rfl rfl rfl rfl ⟨rfl, [], ?_, ?_⟩
    · rw [hz]; rfl
    · rw [hz]; exact Kd.Cs.nil _ _
  have hq2 : (sCount 1048576 3 p).2 = q.2 := by rw [hq]; unfold cntB cntC; rw [if_pos (by simp only [decide_eq_true_eq]; omega)]
  rw [hq2]
  clear hq2 h
  rw [← hq1] at hcr ⊢
  clear hq1 hq hC
  refine loop_vars follows [] (α := Nat × Int × Ps × List Blk × List Value × Gh) (fun x => [(9, .v (.int .i64 x.2.1)), (10, .v (.int .i64 x.1))])
    (fun x => [curL A bs c x.2.2.1, .cells 77 [.p 0 0], .cells 25 [.v (.int .i64 a), .v (.int .i64 regs), .s 3], .row 60 5 x.1 x.2.2.2.2.1]) (fun x => x.2.2.2.2.2)
    (fun x => x.1 ≤ q.1.toNat ∧ CurOK x.2.2.2.2.2 A c bs x.2.2.1 ∧ x.2.2.2.1.length = x.1 ∧ kBlk.Cs x.2.2.2.2.2 x.2.2.2.1 x.2.2.2.2.1 ∧ Run (sBlkF regs q.1) nxB q.1.toNat 0 q.2 x.1 x.2.1 x.2.2.1 x.2.2.2.1 ∧ (x.2.2.1.2 = 0 → 0 ≤ x.2.1 ∧ x.2.1 ≤ 1048576))
    (fun x => q.1.toNat - x.1) (0, 0, q.2, [], [], _)
    ⟨Nat.zero_le _, hCq, rfl, Kd.Cs.nil _ _, Run.start _ _ _, fun _ => ⟨Int.le_refl _, by dsimp only; decide⟩⟩ rfl rfl ?_ ?_
  ·
    refine ⟨?_⟩
    (conv => whnf)
    (repeat' (first | exact trivial | exact .inl rfl | exact .inr rfl | refine And.intro ?_ ?_))
  clear hCq
  rintro ⟨k, t, p1, os, vals, Gk⟩ ⟨hk, hC, hol, hvals, hrun, ht⟩
  dsimp only at hk hC hol hvals hrun ht ⊢
  have hw2 : IntKind.i64.wrap ((k : Int) + 1) = ((k + 1 : Nat) : Int) := by rw [i64_in (by omega) (by omega)]; simp
  have hexit : ∀ (hd : q.1.toNat ≤ k ∨ p1.2 ≠ 0), sBlks regs q.1 q.2 = (os, p1) := fun hd => hrun.done hd
  repeat' ((fail_if_success with_reducible refine Stop.mk ?_);(conv=>whnf);with_reducible first|refine br_f ?_|refine br_d (fun h=>?_) fun h=>?_|refine stop ?_)
  all_goals refine Stop.mk ?_
  ·
    refine call_fn [0] (perr_fn (p := p1)) rfl ⟨rfl, trivial⟩ (by decide) ?_
    rintro sv H' G' ⟨rfl, rfl, rfl⟩ -
    refine ⟨Nat.le_of_ble_eq_true rfl, ?_⟩
    repeat' ((fail_if_success with_reducible refine Stop.mk ?_);(conv=>whnf);with_reducible first|refine br_e (fun h=>?_) fun h=>?_|refine stop ?_)
    all_goals refine Stop.mk ?_
    · have hp0 : p1.2 = 0 := by assumption
      have hkk0 : k < q.1.toNat := by omega
      obtain ⟨ht1, ht2⟩ := ht hp0
      have hcr2 := sCount_range (most := 1048576) (size := 2) hC.isb (by decide)
      refine call_fn [0] (pcount_fn 1048576 2 hC (by decide) (by decide)) rfl ⟨rfl, trivial⟩ (by decide) ?_
      rintro sv H' G' ⟨rfl, rfl, rfl⟩ -
      refine ⟨Nat.le_of_ble_eq_true rfl, ?_⟩
      have hw3 : IntKind.i64.wrap (t + (sCount 1048576 2 p1).1) = t + (sCount 1048576 2 p1).1 := i64_in (by omega) (by omega)
      obtain ⟨u, hu⟩ : ∃ u, u = cntI t p1 := ⟨_, rfl⟩
      have hu1 : u.1 = (sCount 1048576 2 p1).1 := by rw [hu]; rfl
      have hCu := hC.next (q := u.2) (by rw [hu]; exact cntC_suf _ _ _ _ _)
      have hu3 : u.2.2 = 0 → t + u.1 ≤ 1048576 := by
        rw [hu]; intro h0; unfold cntI cntC at h0 ⊢; dsimp only at h0 ⊢
        split at h0
        · rename_i hg; exact of_decide_eq_true hg
        · exact absurd h0 (sFail_ne (by decide))
      have hblk : sBlkF regs q.1 t p1 = (⟨(sCode regs u.1 u.2).1, (sTrm regs q.1 (sCode regs u.1 u.2).2).1⟩, (sTrm regs q.1 (sCode regs u.1 u.2).2).2) := by rw [hu]; rfl
      repeat' ((fail_if_success with_reducible refine Stop.mk ?_);(conv=>whnf);with_reducible first|refine br_d (fun h=>?_) fun h=>?_|refine stop ?_)
      all_goals refine Stop.mk ?_
      all_goals rw [hw3] at h ⊢
      all_goals try
        refine call_fn [0] (pfail_fn 6 (p := (sCount 1048576 2 p1).2)) rfl ⟨rfl, trivial⟩ (by decide) ?_
        rintro sv H' G' ⟨rfl, rfl, rfl⟩ -
        refine ⟨Nat.le_of_ble_eq_true rfl, ?_⟩
        have hu2 : sFail 6 (sCount 1048576 2 p1).2 = u.2 := by rw [hu]; unfold cntI cntC; rw [if_neg (by simp only [decide_eq_true_eq]; omega)]
        rw [hu2]
        repeat' ((fail_if_success with_reducible refine Stop.mk ?_);(conv=>whnf);with_reducible refine stop ?_)
        all_goals refine Stop.mk ?_
      all_goals try
        have hu2 : (sCount 1048576 2 p1).2 = u.2 := by rw [hu]; unfold cntI cntC; rw [if_pos (by simp only [decide_eq_true_eq]; omega)]
        rw [hu2]
      all_goals
        clear hu2 hw3 h
        rw [← hu1] at hcr2 ⊢
        clear hu1 hu
        refine loop_opq fun K0 hK0 => ?_
        refine loop_gh (gh_birth 12 122 5 rfl) ?_
        rintro _ _ ⟨rfl, rfl⟩
        refine loop_vars follows [] (α := Nat × Ps × List Ins × List Value) (fun x => [(12, .s 4), (13, .v (.int .i64 x.1))])
          (fun x => [curL A bs c x.2.1, .cells 77 [.p 0 0], .cells 25 [.v (.int .i64 a), .v (.int .i64 regs), .s 3], .row 60 5 k vals, .row 122 5 x.1 x.2.2.2]) (fun x => G')
          (fun x => x.1 ≤ u.1.toNat ∧ CurOK G' A c bs x.2.1 ∧ x.2.2.1.length = x.1 ∧ kIns.Cs G' x.2.2.1 x.2.2.2 ∧ Run (fun (_ : Unit) => sIns regs) nxU u.1.toNat () u.2 x.1 () x.2.1 x.2.2.1)
          (fun x => u.1.toNat - x.1) (0, u.2, [], [])
          ⟨Nat.zero_le _, hCu, rfl, Kd.Cs.nil _ _, Run.start _ _ _⟩ rfl rfl ?_ ?_
        ·
          refine ⟨?_⟩
          (conv => whnf)
          (repeat' (first | exact trivial | exact .inl rfl | exact .inr rfl | refine And.intro ?_ ?_))
        clear hC hCu
        rintro ⟨j, p2, cs, vals2⟩ ⟨hj, hC, hcl, hvals2, hrun2⟩
        dsimp only at hj hC hcl hvals2 hrun2 ⊢
        have hw4 : IntKind.i64.wrap ((j : Int) + 1) = ((j + 1 : Nat) : Int) := by rw [i64_in (by omega) (by omega)]; simp
        have hexit2 : ∀ (hd : u.1.toNat ≤ j ∨ p2.2 ≠ 0), sCode regs u.1 u.2 = (cs, p2) := fun hd => hrun2.done hd
        repeat' ((fail_if_success with_reducible refine Stop.mk ?_);(conv=>whnf);with_reducible first|refine br_f ?_|refine br_d (fun h=>?_) fun h=>?_|refine stop ?_)
        all_goals refine Stop.mk ?_
        ·
          refine call_fn [0] (perr_fn (p := p2)) rfl ⟨rfl, trivial⟩ (by decide) ?_
          rintro sv H' G' ⟨rfl, rfl, rfl⟩ -
          refine ⟨Nat.le_of_ble_eq_true rfl, ?_⟩
          repeat' ((fail_if_success with_reducible refine Stop.mk ?_);(conv=>whnf);with_reducible first|refine br_e (fun h=>?_) fun h=>?_|refine stop ?_)
          all_goals refine Stop.mk ?_
          · have hp20 : p2.2 = 0 := by assumption
            have hjj : j < u.1.toNat := by omega
            have hok := sIns_ok64 (regs := regs) hC.isb hr.2
            have hnext := hrun2.next hjj hp20 (x := (sIns regs p2).1) (p' := (sIns regs p2).2) rfl () (fun _ => rfl)
            refine call_fn [0, 1, 2, 3] (func1_fn a regs k vals hC hr) rfl ⟨rfl, rfl, rfl, rfl, trivial⟩ (by decide) ?_
            rintro sv H' G' ⟨rfl, rfl, rfl⟩ -
            refine ⟨Nat.le_of_ble_eq_true rfl, ?_⟩
            replace hC := hC.next (sIns_suf regs p2)
            generalize sIns regs p2 = xp at *
            obtain ⟨x, p3⟩ := xp
            dsimp only at hC hok hnext
            repeat' ((fail_if_success with_reducible refine Stop.mk ?_);(conv=>whnf);with_reducible refine stop ?_)
            all_goals refine Stop.mk ?_
            refine ⟨by simp [Value.oneCell'], ⟨by show (j + 1) * 40 ≤ _; omega, ?_⟩⟩
            repeat' ((fail_if_success with_reducible refine Stop.mk ?_);(conv=>whnf);with_reducible refine stop ?_)
            all_goals refine Stop.mk ?_
            rw [hw4]
            refine tell_gc hE [0, 1, 2, 3, 4] rfl rfl ?_
            (conv => whnf)
            refine tell_here ⟨(j + 1, p3, cs ++ [x], vals2 ++ i64s x.l), ⟨by show j + 1 ≤ _; omega, hC, by simp [hcl], hvals2.snoc ⟨rfl, hok⟩, hnext⟩, by show u.1.toNat - (j + 1) < u.1.toNat - j; omega, rfl, rfl, ?_⟩
            refine ⟨?_⟩
            (conv => whnf)
            (repeat' (first | exact trivial | exact .inl rfl | exact .inr rfl | refine And.intro ?_ ?_))
          · have he2 := hexit2 (by first | exact .inl (by omega) | exact .inr (by assumption))
            refine Stop.mk (hK0 _ _ ?_)
            clear hK0
            repeat' ((fail_if_success with_reducible refine Stop.mk ?_);(conv=>whnf);with_reducible refine stop ?_)
            all_goals refine Stop.mk ?_
            have hst : (sTrm regs q.1 p2).2.2 = 0 → p2.2 = 0 := fun h0 => Classical.byContradiction fun h9 => h9 (by rw [sTrm_st h9 (by omega) (by omega)] at h0; exact h0)
            have hful : p2.2 = 0 → cs.length = u.1.toNat ∧ u.2.2 = 0 := by
              intro h0
              have h8 := rep_full (f := fun (_ : Unit) => sIns regs) (nx := nxU) u.1.toNat () u.2
              rw [show rep (fun (_ : Unit) => sIns regs) nxU u.1.toNat () u.2 = (cs, p2) from he2] at h8
              refine ⟨h8 h0, Classical.byContradiction fun h9 => h9 ?_⟩
              have h7 := sCode_st (regs := regs) (k := u.1) h9
              rw [he2] at h7
              rw [← h7]; exact h0
            have htok := sTrm_ok64 (regs := regs) (blocks := q.1) hC.isb (by omega) (by omega)
            rw [he2] at hblk
            dsimp only at hblk
            refine call_fn [0] (term_fn regs q.1 hC hr (by omega)) rfl ⟨rfl, trivial⟩ (by decide) ?_
            rintro sv H' G' ⟨rfl, rfl, rfl⟩ -
            refine ⟨Nat.le_of_ble_eq_true rfl, ?_⟩
            replace hC := hC.next (sTrm_suf regs q.1 p2)
            generalize sTrm regs q.1 p2 = xp at *
            obtain ⟨tm, p3⟩ := xp
            dsimp only at hC hst htok hblk
            repeat' ((fail_if_success with_reducible refine Stop.mk ?_);(conv=>whnf);with_reducible refine stop ?_)
            all_goals refine Stop.mk ?_
            refine call_fz 4 rfl (hvals2.ones) (enters_of Tryz.func72 rfl rfl) fun Ax cx Gx hgx hsx => ?_
            (conv => whnf)
            replace hC := hC.to hgx
            replace hvals := hvals.to hgx
            replace hvals2 := hvals2.to hgx
            have hSx : kIns.S Gx Ax cx cs := Kd.S.of hsx hcl.symm rfl hvals2
            clear hgx hsx
            refine call_fn [2, 3] (func2_fn a regs k vals Ax j cx tm (by omega)) rfl ⟨rfl, rfl, trivial⟩ (by decide) ?_
            rintro sv H' G' ⟨rfl, rfl, rfl⟩ -
            refine ⟨Nat.le_of_ble_eq_true rfl, ?_⟩
            repeat' ((fail_if_success with_reducible refine Stop.mk ?_);(conv=>whnf);with_reducible refine stop ?_)
            all_goals refine Stop.mk ?_
            rw [hw2]
            have hnx : p3.2 = 0 → t + u.1 = nxB t ⟨cs, tm⟩ ∧ (0 ≤ t + u.1 ∧ t + u.1 ≤ 1048576) := by
              intro h0
              obtain ⟨h1, h2⟩ := hful (hst h0)
              have h3 := hu3 h2
              unfold nxB
              dsimp only
              omega
            refine tell_gc hE [0, 1, 2, 3] rfl rfl ?_
            (conv => whnf)
            refine tell_here ⟨(k + 1, t + u.1, p3, os ++ [⟨cs, tm⟩], vals ++ (.slice Ax j cx :: i64s tm.l), _), ⟨by show k + 1 ≤ _; omega, hC, by simp [hol], hvals.snoc ⟨Ax, cx, by rw [hcl], hSx, htok⟩, hrun.next hkk0 hp0 hblk _ (fun h0 => (hnx h0).1), fun h0 => (hnx h0).2⟩, by show q.1.toNat - (k + 1) < q.1.toNat - k; omega, rfl, rfl, ?_⟩
            refine ⟨?_⟩
            (conv => whnf)
            (repeat' (first | exact trivial | exact .inl rfl | exact .inr rfl | refine And.intro ?_ ?_))
        · have he2 := hexit2 (by first | exact .inl (by omega) | exact .inr (by assumption))
          refine Stop.mk (hK0 _ _ ?_)
          clear hK0
          repeat' ((fail_if_success with_reducible refine Stop.mk ?_);(conv=>whnf);with_reducible refine stop ?_)
          all_goals refine Stop.mk ?_
          have hst : (sTrm regs q.1 p2).2.2 = 0 → p2.2 = 0 := fun h0 => Classical.byContradiction fun h9 => h9 (by rw [sTrm_st h9 (by omega) (by omega)] at h0; exact h0)
          have hful : p2.2 = 0 → cs.length = u.1.toNat ∧ u.2.2 = 0 := by
            intro h0
            have h8 := rep_full (f := fun (_ : Unit) => sIns regs) (nx := nxU) u.1.toNat () u.2
            rw [show rep (fun (_ : Unit) => sIns regs) nxU u.1.toNat () u.2 = (cs, p2) from he2] at h8
            refine ⟨h8 h0, Classical.byContradiction fun h9 => h9 ?_⟩
            have h7 := sCode_st (regs := regs) (k := u.1) h9
            rw [he2] at h7
            rw [← h7]; exact h0
          have htok := sTrm_ok64 (regs := regs) (blocks := q.1) hC.isb (by omega) (by omega)
          rw [he2] at hblk
          dsimp only at hblk
          refine call_fn [0] (term_fn regs q.1 hC hr (by omega)) rfl ⟨rfl, trivial⟩ (by decide) ?_
          rintro sv H' G' ⟨rfl, rfl, rfl⟩ -
          refine ⟨Nat.le_of_ble_eq_true rfl, ?_⟩
          replace hC := hC.next (sTrm_suf regs q.1 p2)
          generalize sTrm regs q.1 p2 = xp at *
          obtain ⟨tm, p3⟩ := xp
          dsimp only at hC hst htok hblk
          repeat' ((fail_if_success with_reducible refine Stop.mk ?_);(conv=>whnf);with_reducible refine stop ?_)
          all_goals refine Stop.mk ?_
          refine call_fz 4 rfl (hvals2.ones) (enters_of Tryz.func72 rfl rfl) fun Ax cx Gx hgx hsx => ?_
          (conv => whnf)
          replace hC := hC.to hgx
          replace hvals := hvals.to hgx
          replace hvals2 := hvals2.to hgx
          have hSx : kIns.S Gx Ax cx cs := Kd.S.of hsx hcl.symm rfl hvals2
          clear hgx hsx
          refine call_fn [2, 3] (func2_fn a regs k vals Ax j cx tm (by omega)) rfl ⟨rfl, rfl, trivial⟩ (by decide) ?_
          rintro sv H' G' ⟨rfl, rfl, rfl⟩ -
          refine ⟨Nat.le_of_ble_eq_true rfl, ?_⟩
          repeat' ((fail_if_success with_reducible refine Stop.mk ?_);(conv=>whnf);with_reducible refine stop ?_)
          all_goals refine Stop.mk ?_
          rw [hw2]
          have hnx : p3.2 = 0 → t + u.1 = nxB t ⟨cs, tm⟩ ∧ (0 ≤ t + u.1 ∧ t + u.1 ≤ 1048576) := by
            intro h0
            obtain ⟨h1, h2⟩ := hful (hst h0)
            have h3 := hu3 h2
            unfold nxB
            dsimp only
            omega
          refine tell_gc hE [0, 1, 2, 3] rfl rfl ?_
          (conv => whnf)
          refine tell_here ⟨(k + 1, t + u.1, p3, os ++ [⟨cs, tm⟩], vals ++ (.slice Ax j cx :: i64s tm.l), _), ⟨by show k + 1 ≤ _; omega, hC, by simp [hol], hvals.snoc ⟨Ax, cx, by rw [hcl], hSx, htok⟩, hrun.next hkk0 hp0 hblk _ (fun h0 => (hnx h0).1), fun h0 => (hnx h0).2⟩, by show q.1.toNat - (k + 1) < q.1.toNat - k; omega, rfl, rfl, ?_⟩
          refine ⟨?_⟩
          (conv => whnf)
          (repeat' (first | exact trivial | exact .inl rfl | exact .inr rfl | refine And.intro ?_ ?_))
    · have he := hexit (by first | exact .inl (by omega) | exact .inr (by assumption))
      refine fin_id hE 4 rfl rfl rfl rfl ⟨rfl, vals, ?_, ?_⟩
      · rw [he]; dsimp only; rw [hol]; rfl
      · rw [he]; exact hvals
  · have he := hexit (by first | exact .inl (by omega) | exact .inr (by assumption))
    refine fin_id hE 4 rfl rfl rfl rfl ⟨rfl, vals, ?_, ?_⟩
    · rw [he]; dsimp only; rw [hol]; rfl
    · rw [he]; exact hvals
end Go.Proofs.YtchebkpcgglllaaGreat.Cu
