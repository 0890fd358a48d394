/- Certificates: the decoding, whose invariants lie in rows all their own. -/
import Derived.Test.YtchebkpcgglllaaGreatCcx
import Derived.Test.YtchebkpcgglllaaGreatKpW
namespace Go.Proofs.YtchebkpcgglllaaGreat.Cu
open Go Go.SX Go.Proofs.YtchebkpcgglllaaGreat.VT
set_option maxRecDepth 100000
set_option linter.unusedVariables false
set_option linter.unusedSimpArgs false
def DecPostO (G0 : Gh) (b : List Int) (sv : SV) (H' : List Ob) (G' : Gh) : Prop := H' = [] ∧
  ((cErr b = 0 ∧ ∃ A B C a b' c, sv = .tup [crtSV A B C a b' c (cW b).length (cS b) (cT b), .v (.int .i64 0)] ∧ kBlk.S G' A a (cS b).blocks ∧ kMBlk.S G' B b' (cT b).blocks ∧ OwnP G0 G' C c (cW b)) ∨
   (cErr b ≠ 0 ∧ sv = .tup [crt0, .v (.int .i64 (cErr b))]))
set_option maxHeartbeats 8000000 in
theorem cdecWO_fn {G : Gh} {A : Option Addr} {bs : List Int} {c : Nat} {p : Ps} {A1 A2 A3 : Option Addr} {c1 c2 c3 n : Nat} {s : Fn} {t : MFn} (hC : CurOK G A c bs p) (hvr : (0 ≤ (s.blocks.length : Int) ∧ (s.blocks.length : Int) ≤ 2000000) ∧ (0 ≤ s.regs ∧ s.regs ≤ 1000000000) ∧ t.regs ≤ 1000000000 ∧ t.slots ≤ 1000000000) :
    Ct Tryz.prog 32 [.p 0 0, .p 1 0] [curL A bs c p, outL A1 A2 A3 c1 c2 c3 n s t] G fun sv H' G' => sv = .tup [] ∧ ∃ B d, H' = [curL A bs c (sInvC s t p).2, outL A1 A2 B c1 c2 d (sInvL s t p).length s t] ∧ OwnP G G' B d (sInvL s t p) := by
  refine fn_of follows [] Tryz.func32 rfl rfl fun E hE => ?_
  unfold outL
  repeat' ((fail_if_success with_reducible refine Stop.mk ?_);(conv=>whnf);with_reducible first|refine br_t ?_|refine br_f ?_|refine br_nn ?_|refine br_ns ?_|refine br_not ?_|refine br_d (fun h=>?_) fun h=>?_|refine br_e (fun h=>?_) fun h=>?_|refine br_n (fun h=>?_) fun h=>?_|refine drw (by kernel_rfl) ?_|refine chk (by kernel_rfl) ?_|refine stop ?_)
  all_goals refine Stop.mk ?_
  refine call_fn [0] (get_invO_fn s.blocks.length s.regs t.regs t.slots hC hvr.1 hvr.2.1 hvr.2.2.1 hvr.2.2.2) rfl ⟨rfl, trivial⟩ (by decide) ?_
  rintro sv H' G2 ⟨⟨B, d, rfl, hS⟩, rfl⟩ hg
  refine ⟨Nat.le_of_ble_eq_true rfl, ?_⟩
  repeat' ((fail_if_success with_reducible refine Stop.mk ?_);(conv=>whnf);with_reducible first|refine br_t ?_|refine br_f ?_|refine br_nn ?_|refine br_ns ?_|refine br_not ?_|refine br_d (fun h=>?_) fun h=>?_|refine br_e (fun h=>?_) fun h=>?_|refine br_n (fun h=>?_) fun h=>?_|refine drw (by kernel_rfl) ?_|refine chk (by kernel_rfl) ?_|refine stop ?_)
  all_goals refine Stop.mk ?_
  exact fin_id hE 2 rfl rfl rfl rfl ⟨rfl, B, d, rfl, hS⟩
set_option maxHeartbeats 8000000 in
theorem cwholeWO_fn {G : Gh} {A : Option Addr} {bs : List Int} {c : Nat} {A1 A2 A3 : Option Addr} {c1 c2 c3 n : Nat} {s : Fn} {t : MFn} (hb : isB bs) (hs : SlB G A c bs) (hlen : bs.length ≤ 1000000) (hvr : (0 ≤ (s.blocks.length : Int) ∧ (s.blocks.length : Int) ≤ 2000000) ∧ (0 ≤ s.regs ∧ s.regs ≤ 1000000000) ∧ t.regs ≤ 1000000000 ∧ t.slots ≤ 1000000000) (he : (secW s t bs).2 = 0) :
    Ct Tryz.prog 27 [.v (.slice A bs.length c), .f (.func 32) [] [.p 0 0]] [outL A1 A2 A3 c1 c2 c3 n s t] G fun sv H' G' => sv = .tup [] ∧ ∃ B d, H' = [outL A1 A2 B c1 c2 d (sInvL s t (bs, 0)).length s t] ∧ OwnP G G' B d (sInvL s t (bs, 0)) := by
  refine fn_of follows [] Tryz.func27 rfl rfl fun E hE => ?_
  unfold outL
  repeat' ((fail_if_success with_reducible refine Stop.mk ?_);(conv=>whnf);with_reducible first|refine br_t ?_|refine br_f ?_|refine br_nn ?_|refine br_ns ?_|refine br_not ?_|refine br_d (fun h=>?_) fun h=>?_|refine br_e (fun h=>?_) fun h=>?_|refine br_n (fun h=>?_) fun h=>?_|refine drw (by kernel_rfl) ?_|refine chk (by kernel_rfl) ?_|refine stop ?_)
  all_goals refine Stop.mk ?_
  refine call_fn [] (pnew_fn G A bs c hb hs (by omega)) rfl trivial (by decide) ?_
  rintro sv H' G' ⟨A', c', rfl, rfl, hC⟩ hg
  refine ⟨Nat.le_of_ble_eq_true rfl, ?_⟩
  unfold curL curO
  repeat' ((fail_if_success with_reducible refine Stop.mk ?_);(conv=>whnf);with_reducible first|refine br_t ?_|refine br_f ?_|refine br_nn ?_|refine br_ns ?_|refine br_not ?_|refine br_d (fun h=>?_) fun h=>?_|refine br_e (fun h=>?_) fun h=>?_|refine br_n (fun h=>?_) fun h=>?_|refine drw (by kernel_rfl) ?_|refine chk (by kernel_rfl) ?_|refine stop ?_)
  all_goals refine Stop.mk ?_
  refine call_fn [1, 0] (cdecWO_fn (n := n) (s := s) (t := t) (A1 := A1) (A2 := A2) (A3 := A3) (c1 := c1) (c2 := c2) (c3 := c3) hC hvr) rfl ⟨rfl, rfl, trivial⟩ (by decide) ?_
  rintro sv H' G2 ⟨rfl, B, d, rfl, hS⟩ hg2
  refine ⟨Nat.le_of_ble_eq_true rfl, ?_⟩
  have hC2 : CurOK G2 A' c' bs (sInvC s t (bs, 0)).2 := (hC.to hg2).next (sInvC_suf s t (bs, 0))
  unfold curL curO outL
  repeat' ((fail_if_success with_reducible refine Stop.mk ?_);(conv=>whnf);with_reducible first|refine br_t ?_|refine br_f ?_|refine br_nn ?_|refine br_ns ?_|refine br_not ?_|refine br_d (fun h=>?_) fun h=>?_|refine br_e (fun h=>?_) fun h=>?_|refine br_n (fun h=>?_) fun h=>?_|refine drw (by kernel_rfl) ?_|refine chk (by kernel_rfl) ?_|refine stop ?_)
  all_goals refine Stop.mk ?_
  refine call_fn [1] (pend_fn hC2) rfl ⟨rfl, trivial⟩ (by decide) ?_
  rintro sv H' G3 ⟨rfl, rfl, rfl⟩ -
  refine ⟨Nat.le_of_ble_eq_true rfl, ?_⟩
  unfold curL curO
  repeat' ((fail_if_success with_reducible refine Stop.mk ?_);(conv=>whnf);with_reducible first|refine br_t ?_|refine br_f ?_|refine br_nn ?_|refine br_ns ?_|refine br_not ?_|refine br_d (fun h=>?_) fun h=>?_|refine br_e (fun h=>?_) fun h=>?_|refine br_n (fun h=>?_) fun h=>?_|refine drw (by kernel_rfl) ?_|refine chk (by kernel_rfl) ?_|refine stop ?_)
  all_goals refine Stop.mk ?_
  refine call_fn [1] (perr_fn (p := sEnd (sInvC s t (bs, 0)).2) (A := A') (bs := bs) (c := c')) rfl ⟨rfl, trivial⟩ (by decide) ?_
  rintro sv H' G4 ⟨rfl, rfl, rfl⟩ -
  refine ⟨Nat.le_of_ble_eq_true rfl, ?_⟩
  unfold curL curO
  repeat' ((fail_if_success with_reducible refine Stop.mk ?_);(conv=>whnf);with_reducible first|refine br_t ?_|refine br_f ?_|refine br_nn ?_|refine br_ns ?_|refine br_not ?_|refine br_d (fun h=>?_) fun h=>?_|refine br_e (fun h=>?_) fun h=>?_|refine br_n (fun h=>?_) fun h=>?_|refine drw (by kernel_rfl) ?_|refine chk (by kernel_rfl) ?_|refine stop ?_)
  all_goals refine Stop.mk ?_
  rw [show (sEnd (sInvC s t (bs, 0)).2).2 = 0 from he]
  refine call_fn [] (ccheck_fn _) rfl trivial (by decide) ?_
  rintro sv H' G5 ⟨rfl, rfl, rfl⟩ -
  refine ⟨Nat.le_of_ble_eq_true rfl, ?_⟩
  repeat' ((fail_if_success with_reducible refine Stop.mk ?_);(conv=>whnf);with_reducible first|refine br_t ?_|refine br_f ?_|refine br_nn ?_|refine br_ns ?_|refine br_not ?_|refine br_d (fun h=>?_) fun h=>?_|refine br_e (fun h=>?_) fun h=>?_|refine br_n (fun h=>?_) fun h=>?_|refine drw (by kernel_rfl) ?_|refine chk (by kernel_rfl) ?_|refine stop ?_)
  all_goals refine Stop.mk ?_
  exact fin_id hE 1 rfl rfl rfl rfl ⟨rfl, B, d, rfl, hS.lo hg⟩
set_option maxHeartbeats 16000000 in
theorem cdecodeO_fn (G : Gh) (A : Option Addr) (c : Nat) (b : List Int) (hbb : isB b) (hb : SlB G A c b) (hlen : b.length ≤ 1000000) (hP : PartOK b) :
    Ct Tryz.prog 10 [.v (.slice A b.length c)] [] G (DecPostO G b) := by
  have herr : cErr b = if eStart b ≠ 0 then eStart b else
    if (splitR [1, 2, 3] (b.drop 3)).2 ≠ 0 then (splitR [1, 2, 3] (b.drop 3)).2 else
    if (secS (cPart b 0)).2 ≠ 0 then (secS (cPart b 0)).2 else
    if (secT (cPart b 1)).2 ≠ 0 then (secT (cPart b 1)).2 else
    if (cS b).blocks.length ≠ (cT b).blocks.length ∨ (cS b).args ≠ (cT b).args then 14 else (secW (cS b) (cT b) (cPart b 2)).2 := rfl
  refine fn_ofD (PanD := DecPan b) follows [(3, (.cons 0 [] (.cons 1 [] (.cons 2 [] (.cons 3 [] (.cons 4 [] (.cons 5 [] (.cons 6 [] (.cons 7 [] (.cons 8 [] .nil))))))))))] [(5, (.cons 0 [] (.cons 1 [] (.cons 2 [] (.cons 3 [] (.cons 4 [2] .nil))))))] Tryz.func10 rfl rfl rfl rfl rfl rfl rfl rfl rfl (by decide) (by decide) (by decide) (by decide +kernel)
    Tryz.func22 rfl rfl rfl rfl rfl rfl rfl rfl rfl (by decide) (fun E0 hE0 => ?_) (fun E p q G => ?_) (fun E0 E hE0 hE x H2 G2 hp => ?_)
  ·
    repeat' ((fail_if_success with_reducible refine Stop.mk ?_);(conv=>whnf);with_reducible first|refine br_t ?_|refine br_f ?_|refine br_nn ?_|refine br_ns ?_|refine br_not ?_|refine br_d (fun h=>?_) fun h=>?_|refine br_e (fun h=>?_) fun h=>?_|refine br_n (fun h=>?_) fun h=>?_|refine drw (by kernel_rfl) ?_|refine chk (by kernel_rfl) ?_|refine stop ?_)
    all_goals refine Stop.mk ?_
    refine ⟨rfl, rfl, ⟨_, _, _, _, rfl⟩, rfl, fun E1 hE1 hpan => ?_⟩
    repeat' ((fail_if_success with_reducible refine Stop.mk ?_);(conv=>whnf);with_reducible first|refine br_t ?_|refine br_f ?_|refine br_nn ?_|refine br_ns ?_|refine br_not ?_|refine br_d (fun h=>?_) fun h=>?_|refine br_e (fun h=>?_) fun h=>?_|refine br_n (fun h=>?_) fun h=>?_|refine drw (by kernel_rfl) ?_|refine chk (by kernel_rfl) ?_|refine stop ?_)
    all_goals refine Stop.mk ?_
    by_cases h1 : eStart b = 0
    case neg =>
      rw [if_pos h1] at herr
      refine call_pn [] (cstart_pn _ A c b hb h1) rfl trivial (by decide) ?_
      rintro x H' G' ⟨rfl, rfl, rfl⟩ -
      exact ⟨Nat.le_of_ble_eq_true rfl, hpan _ _ _ (fin_id hE1 2 rfl rfl rfl rfl ⟨rfl, by rw [herr]; exact h1, by rw [herr], _, _, _, _, _, _, _, _, _, rfl⟩)⟩
    rw [if_neg (not_not_intro h1)] at herr
    have hl3 : 3 ≤ b.length := Classical.byContradiction fun h => by
      unfold eStart at h1
      split at h1
      · simp at h1
      split at h1
      · simp at h1
      rw [if_pos (by omega)] at h1
      simp at h1
    refine call_fn [] (cstart_fn _ A c b hb h1) rfl trivial (by decide) ?_
    rintro sv H' G' ⟨rfl, rfl, rfl⟩ -
    refine ⟨Nat.le_of_ble_eq_true rfl, ?_⟩
    repeat' ((fail_if_success with_reducible refine Stop.mk ?_);(conv=>whnf);with_reducible first|refine br_t ?_|refine br_f ?_|refine br_nn ?_|refine br_ns ?_|refine br_not ?_|refine br_d (fun h=>?_) fun h=>?_|refine br_e (fun h=>?_) fun h=>?_|refine br_n (fun h=>?_) fun h=>?_|refine drw (by kernel_rfl) ?_|refine chk (by kernel_rfl) ?_|refine stop ?_)
    all_goals refine Stop.mk ?_
    refine ⟨⟨by omega, by omega⟩, fun A2 hA2 => ?_⟩
    have hs2 := slB_drop hb 3 hl3 hA2
    have hbd : isB (b.drop 3) := isB_drop hbb 3
    have hdl : b.length - Int.toNat 3 = (b.drop 3).length := by rw [List.length_drop]; rfl
    have hcl : c - Int.toNat 3 = c - 3 := rfl
    rw [hdl, hcl]
    clear hA2
    repeat' ((fail_if_success with_reducible refine Stop.mk ?_);(conv=>whnf);with_reducible first|refine br_t ?_|refine br_f ?_|refine br_nn ?_|refine br_ns ?_|refine br_not ?_|refine br_d (fun h=>?_) fun h=>?_|refine br_e (fun h=>?_) fun h=>?_|refine br_n (fun h=>?_) fun h=>?_|refine drw (by kernel_rfl) ?_|refine chk (by kernel_rfl) ?_|refine stop ?_)
    all_goals refine Stop.mk ?_
    refine call_fn [] (cids_fn _) rfl trivial (by decide) ?_
    rintro sv H' G2 ⟨⟨A3, c3, rfl, hi3⟩, rfl⟩ hg2
    refine ⟨Nat.le_of_ble_eq_true rfl, ?_⟩
    repeat' ((fail_if_success with_reducible refine Stop.mk ?_);(conv=>whnf);with_reducible first|refine br_t ?_|refine br_f ?_|refine br_nn ?_|refine br_ns ?_|refine br_not ?_|refine br_d (fun h=>?_) fun h=>?_|refine br_e (fun h=>?_) fun h=>?_|refine br_n (fun h=>?_) fun h=>?_|refine drw (by kernel_rfl) ?_|refine chk (by kernel_rfl) ?_|refine stop ?_)
    all_goals refine Stop.mk ?_
    refine call_fn [] (split_fn _ A2 A3 (c - 3) c3 (b.drop 3) [1, 2, 3] hbd (Sl.to hg2 hs2) hi3 (by decide) (by rw [List.length_drop]; omega)) rfl trivial (by decide) ?_
    intro sv H' G3 hp hg3
    unfold SplitPost at hp
    by_cases h2 : (splitR [1, 2, 3] (b.drop 3)).2 = 0
    case neg =>
      rw [if_neg h2] at hp
      rw [if_pos h2] at herr
      obtain ⟨rfl, rfl⟩ := hp
      refine ⟨Nat.le_of_ble_eq_true rfl, ?_⟩
      repeat' ((fail_if_success with_reducible refine Stop.mk ?_);(conv=>whnf);with_reducible first|refine br_t ?_|refine br_f ?_|refine br_nn ?_|refine br_ns ?_|refine br_not ?_|refine br_d (fun h=>?_) fun h=>?_|refine br_e (fun h=>?_) fun h=>?_|refine br_n (fun h=>?_) fun h=>?_|refine drw (by kernel_rfl) ?_|refine chk (by kernel_rfl) ?_|refine stop ?_)
      all_goals refine Stop.mk ?_
      refine call_pn [] (ccheck_pn _ _ h2) rfl trivial (by decide) ?_
      rintro x H' G' ⟨rfl, rfl, rfl⟩ -
      exact ⟨Nat.le_of_ble_eq_true rfl, hpan _ _ _ (fin_id hE1 2 rfl rfl rfl rfl ⟨rfl, by rw [herr]; exact h2, by rw [herr], _, _, _, _, _, _, _, _, _, rfl⟩)⟩
    rw [if_pos h2] at hp
    rw [if_neg (not_not_intro h2)] at herr
    obtain ⟨x, y, z, hxyz⟩ := splitR3 (b.drop 3)
    have e0 : cPart b 0 = x := by unfold cPart; rw [hxyz]; rfl
    have e1 : cPart b 1 = y := by unfold cPart; rw [hxyz]; rfl
    have e2 : cPart b 2 = z := by unfold cPart; rw [hxyz]; rfl
    rw [hxyz] at hp
    obtain ⟨vals, rfl, rfl, hv⟩ := hp
    obtain ⟨B1, d1, B2, d2, B3, d3, rfl, ⟨s1, b1⟩, ⟨s2, b2⟩, s3, b3⟩ := kBs3 hv
    refine ⟨Nat.le_of_ble_eq_true rfl, ?_⟩
    have hl0 := hP.l0 h2
    have hl1 := hP.l1 h2
    have hl2 := hP.l2 h2
    have hvr := hP.vr h2
    rw [e0] at hl0 herr hvr
    rw [e1] at hl1 herr hvr
    rw [e2] at hl2 herr
    repeat' ((fail_if_success with_reducible refine Stop.mk ?_);(conv=>whnf);with_reducible first|refine br_t ?_|refine br_f ?_|refine br_nn ?_|refine br_ns ?_|refine br_not ?_|refine br_d (fun h=>?_) fun h=>?_|refine br_e (fun h=>?_) fun h=>?_|refine br_n (fun h=>?_) fun h=>?_|refine drw (by kernel_rfl) ?_|refine chk (by kernel_rfl) ?_|refine stop ?_)
    all_goals refine Stop.mk ?_
    refine call_fn [] (ccheck_fn _) rfl trivial (by decide) ?_
    rintro sv H' G4 ⟨rfl, rfl, rfl⟩ -
    refine ⟨Nat.le_of_ble_eq_true rfl, ?_⟩
    repeat' ((fail_if_success with_reducible refine Stop.mk ?_);(conv=>whnf);first|with_reducible refine br_t ?_|with_reducible refine br_f ?_|with_reducible refine br_nn ?_|with_reducible refine br_ns ?_|with_reducible refine br_not ?_|refine br_tt (by rfl) ?_|refine br_ff (by rfl) ?_|((with_reducible refine br_d (fun h=>?_) fun h=>?_) <;> try (exfalso; omega))|((with_reducible refine br_e (fun h=>?_) fun h=>?_) <;> try (exfalso; omega))|((with_reducible refine br_n (fun h=>?_) fun h=>?_) <;> try (exfalso; omega))|with_reducible refine drw (by kernel_rfl) ?_|with_reducible refine chk (by kernel_rfl) ?_|refine lit_ix (by rfl) (by rfl) ?_|refine ldrow (by rfl) ?_|refine ldrow1 ?_|with_reducible refine stop ?_)
    all_goals refine Stop.mk ?_
    -- the source function
    have hS : cS b = (sFnR (x, 0)).1 := by unfold cS secS; rw [e0]
    have hT : cT b = (sMFnR (y, 0)).1 := by unfold cT secT; rw [e1]
    have hW : cW b = sInvL (cS b) (cT b) (z, 0) := by unfold cW; rw [e2]
    by_cases h3 : (secS x).2 = 0
    case neg =>
      rw [if_pos h3] at herr
      refine call_pn [0] (cwholeS_pn (A1 := none) (A2 := none) (A3 := none) (c1 := 0) (c2 := 0) (c3 := 0) (n := 0) (s := fn0) (t := mfn0) b1 s1 hl0 h3) rfl ⟨rfl, trivial⟩ (by decide) ?_
      rintro x' H' G' ⟨rfl, B, d, rfl⟩ -
      exact ⟨Nat.le_of_ble_eq_true rfl, hpan _ _ _ (fin_id hE1 2 rfl rfl rfl rfl ⟨rfl, by rw [herr]; exact h3, by rw [herr], _, _, _, _, _, _, _, _, _, rfl⟩)⟩
    rw [if_neg (not_not_intro h3)] at herr
    refine call_fn [0] (cwholeS_fn (A1 := none) (A2 := none) (A3 := none) (c1 := 0) (c2 := 0) (c3 := 0) (n := 0) (s := fn0) (t := mfn0) b1 s1 hl0 h3) rfl ⟨rfl, trivial⟩ (by decide) ?_
    rintro sv H' G5 ⟨rfl, B4, d4, rfl, hsS⟩ hg5
    refine ⟨Nat.le_of_ble_eq_true rfl, ?_⟩
    rw [← hS] at hsS ⊢
    replace s2 := Sl.to hg5 s2
    replace s3 := Sl.to hg5 s3
    unfold outL
    repeat' ((fail_if_success with_reducible refine Stop.mk ?_);(conv=>whnf);first|with_reducible refine br_t ?_|with_reducible refine br_f ?_|with_reducible refine br_nn ?_|with_reducible refine br_ns ?_|with_reducible refine br_not ?_|refine br_tt (by rfl) ?_|refine br_ff (by rfl) ?_|((with_reducible refine br_d (fun h=>?_) fun h=>?_) <;> try (exfalso; omega))|((with_reducible refine br_e (fun h=>?_) fun h=>?_) <;> try (exfalso; omega))|((with_reducible refine br_n (fun h=>?_) fun h=>?_) <;> try (exfalso; omega))|with_reducible refine drw (by kernel_rfl) ?_|with_reducible refine chk (by kernel_rfl) ?_|refine lit_ix (by rfl) (by rfl) ?_|refine ldrow (by rfl) ?_|refine ldrow1 ?_|with_reducible refine stop ?_)
    all_goals refine Stop.mk ?_
    -- the allocated function
    by_cases h4 : (secT y).2 = 0
    case neg =>
      rw [if_pos h4] at herr
      refine call_pn [0] (cwholeT_pn (A1 := B4) (A2 := none) (A3 := none) (c1 := d4) (c2 := 0) (c3 := 0) (n := 0) (s := cS b) (t := mfn0) b2 s2 hl1 h4) rfl ⟨rfl, trivial⟩ (by decide) ?_
      rintro x' H' G' ⟨rfl, B, d, rfl⟩ -
      exact ⟨Nat.le_of_ble_eq_true rfl, hpan _ _ _ (fin_id hE1 2 rfl rfl rfl rfl ⟨rfl, by rw [herr]; exact h4, by rw [herr], _, _, _, _, _, _, _, _, _, rfl⟩)⟩
    rw [if_neg (not_not_intro h4)] at herr
    refine call_fn [0] (cwholeT_fn (A1 := B4) (A2 := none) (A3 := none) (c1 := d4) (c2 := 0) (c3 := 0) (n := 0) (s := cS b) (t := mfn0) b2 s2 hl1 h4) rfl ⟨rfl, trivial⟩ (by decide) ?_
    rintro sv H' G6 ⟨rfl, B5, d5, rfl, hsT⟩ hg6
    refine ⟨Nat.le_of_ble_eq_true rfl, ?_⟩
    rw [← hT] at hsT ⊢
    replace hsS := hsS.to hg6
    replace s3 := Sl.to hg6 s3
    replace hvr := hvr h3 h4
    unfold outL
    by_cases h5 : (cS b).blocks.length ≠ (cT b).blocks.length ∨ (cS b).args ≠ (cT b).args
    case pos =>
      rw [if_pos h5] at herr
      repeat' ((fail_if_success with_reducible refine Stop.mk ?_);(conv=>whnf);first|with_reducible refine br_t ?_|with_reducible refine br_f ?_|with_reducible refine br_nn ?_|with_reducible refine br_ns ?_|with_reducible refine br_not ?_|refine br_tt (by rfl) ?_|refine br_ff (by rfl) ?_|((with_reducible refine br_d (fun h=>?_) fun h=>?_) <;> try (exfalso; omega))|((with_reducible refine br_e (fun h=>?_) fun h=>?_) <;> try (exfalso; omega))|((with_reducible refine br_n (fun h=>?_) fun h=>?_) <;> try (exfalso; omega))|with_reducible refine drw (by kernel_rfl) ?_|with_reducible refine chk (by kernel_rfl) ?_|refine lit_ix (by rfl) (by rfl) ?_|refine ldrow (by rfl) ?_|refine ldrow1 ?_|with_reducible refine stop ?_)
      all_goals refine Stop.mk ?_
      all_goals
        refine call_pn [] (ccheck_pn _ 14 (by decide)) rfl trivial (by decide) ?_
        rintro x' H' G' ⟨rfl, rfl, rfl⟩ -
        exact ⟨Nat.le_of_ble_eq_true rfl, hpan _ _ _ (fin_id hE1 2 rfl rfl rfl rfl ⟨rfl, by rw [herr]; exact (by decide), by rw [herr], _, _, _, _, _, _, _, _, _, rfl⟩)⟩
    rw [if_neg h5] at herr
    repeat' ((fail_if_success with_reducible refine Stop.mk ?_);(conv=>whnf);first|with_reducible refine br_t ?_|with_reducible refine br_f ?_|with_reducible refine br_nn ?_|with_reducible refine br_ns ?_|with_reducible refine br_not ?_|refine br_tt (by rfl) ?_|refine br_ff (by rfl) ?_|((with_reducible refine br_d (fun h=>?_) fun h=>?_) <;> try (exfalso; omega))|((with_reducible refine br_e (fun h=>?_) fun h=>?_) <;> try (exfalso; omega))|((with_reducible refine br_n (fun h=>?_) fun h=>?_) <;> try (exfalso; omega))|with_reducible refine drw (by kernel_rfl) ?_|with_reducible refine chk (by kernel_rfl) ?_|refine lit_ix (by rfl) (by rfl) ?_|refine ldrow (by rfl) ?_|refine ldrow1 ?_|with_reducible refine stop ?_)
    all_goals refine Stop.mk ?_
    -- the invariants
    by_cases h6 : (secW (cS b) (cT b) z).2 = 0
    case neg =>
      refine call_pn [0] (cwholeW_pn (A1 := B4) (A2 := B5) (A3 := none) (c1 := d4) (c2 := d5) (c3 := 0) (n := 0) (s := cS b) (t := cT b) b3 s3 hl2 hvr h6) rfl ⟨rfl, trivial⟩ (by decide) ?_
      rintro x' H' G' ⟨rfl, B, d, rfl⟩ -
      exact ⟨Nat.le_of_ble_eq_true rfl, hpan _ _ _ (fin_id hE1 2 rfl rfl rfl rfl ⟨rfl, by rw [herr]; exact h6, by rw [herr], _, _, _, _, _, _, _, _, _, rfl⟩)⟩
    refine call_fn [0] (cwholeWO_fn (A1 := B4) (A2 := B5) (A3 := none) (c1 := d4) (c2 := d5) (c3 := 0) (n := 0) (s := cS b) (t := cT b) b3 s3 hl2 hvr h6) rfl ⟨rfl, trivial⟩ (by decide) ?_
    rintro sv H' G7 ⟨rfl, B6, d6, rfl, hsW⟩ hg7
    refine ⟨Nat.le_of_ble_eq_true rfl, ?_⟩
    rw [← hW] at hsW ⊢
    unfold outL
    repeat' ((fail_if_success with_reducible refine Stop.mk ?_);(conv=>whnf);first|with_reducible refine br_t ?_|with_reducible refine br_f ?_|with_reducible refine br_nn ?_|with_reducible refine br_ns ?_|with_reducible refine br_not ?_|refine br_tt (by rfl) ?_|refine br_ff (by rfl) ?_|((with_reducible refine br_d (fun h=>?_) fun h=>?_) <;> try (exfalso; omega))|((with_reducible refine br_e (fun h=>?_) fun h=>?_) <;> try (exfalso; omega))|((with_reducible refine br_n (fun h=>?_) fun h=>?_) <;> try (exfalso; omega))|with_reducible refine drw (by kernel_rfl) ?_|with_reducible refine chk (by kernel_rfl) ?_|refine lit_ix (by rfl) (by rfl) ?_|refine ldrow (by rfl) ?_|refine ldrow1 ?_|with_reducible refine stop ?_)
    all_goals refine Stop.mk ?_
    exact fin_id hE0 0 rfl rfl rfl rfl ⟨rfl, .inl ⟨by rw [herr]; exact h6, B4, B5, B6, d4, d5, d6, rfl, hsS.to hg7, hsT.to hg7, hsW.lo fun b o h => hg6 b o (hg5 b o (hg3 b o (hg2 b o h)))⟩⟩
  ·
    repeat' ((fail_if_success with_reducible refine Stop.mk ?_);(conv=>whnf);with_reducible first|refine br_t ?_|refine br_f ?_|refine br_nn ?_|refine br_ns ?_|refine br_not ?_|refine br_d (fun h=>?_) fun h=>?_|refine br_e (fun h=>?_) fun h=>?_|refine br_n (fun h=>?_) fun h=>?_|refine drw (by kernel_rfl) ?_|refine chk (by kernel_rfl) ?_|refine stop ?_)
    all_goals refine Stop.mk ?_
    trivial
  · obtain ⟨he, rfl, v0, v1, v2, v3, v4, v5, v6, v7, v8, rfl⟩ := hp
    unfold failV
    repeat' ((fail_if_success with_reducible refine Stop.mk ?_);(conv=>whnf);with_reducible first|refine br_t ?_|refine br_f ?_|refine br_nn ?_|refine br_ns ?_|refine br_not ?_|refine br_d (fun h=>?_) fun h=>?_|refine br_e (fun h=>?_) fun h=>?_|refine br_n (fun h=>?_) fun h=>?_|refine drw (by kernel_rfl) ?_|refine chk (by kernel_rfl) ?_|refine stop ?_)
    all_goals refine Stop.mk ?_
    exact fin_id hE0 0 rfl rfl rfl rfl ⟨rfl, .inr ⟨he, rfl⟩⟩
end Go.Proofs.YtchebkpcgglllaaGreat.Cu
