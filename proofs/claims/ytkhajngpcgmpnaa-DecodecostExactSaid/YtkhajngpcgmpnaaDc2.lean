/- The cost of decoding: a number, the pairs, the invariants. -/
import Derived.Test.YtkhajngpcgmpnaaDc1
import Derived.Test.YtkhajngpcgmpnaaSXP
namespace Go.Proofs.Ytkhajngpcgmpnaa.Cu
open Go Go.SX Go.Proofs.Ytkhajngpcgmpnaa.VT
set_option maxRecDepth 100000
set_option linter.unusedVariables false
set_option linter.unusedSimpArgs false

def xO (x : Cst) : Ob := .cells 58 [.v (.int .i64 x.blocks), .v (.int .i64 x.instrs), .v (.int .i64 x.pairs), .v (.int .i64 x.bytes)]
def shO (s : Shp) : Ob := .cells 67 [.v (.int .i64 s.args), .v (.int .i64 s.regs), .v (.int .i64 s.slots), .v (.int .i64 s.blocks)]
def Shp.sv (s : Shp) : SV := .agg [.v (.int .i64 s.args), .v (.int .i64 s.regs), .v (.int .i64 s.slots), .v (.int .i64 s.blocks)]
def okShp (s : Shp) : Prop := (0 ≤ s.args ∧ s.args ≤ 1048576) ∧ (0 ≤ s.regs ∧ s.regs ≤ 1048576) ∧ (0 ≤ s.slots ∧ s.slots ≤ 1048576) ∧ (0 ≤ s.blocks ∧ s.blocks ≤ 1048576)
def okCst (x : Cst) (m : Int) : Prop := (0 ≤ x.blocks ∧ x.blocks ≤ m) ∧ (0 ≤ x.instrs ∧ x.instrs ≤ m) ∧ (0 ≤ x.pairs ∧ x.pairs ≤ m) ∧ (0 ≤ x.bytes ∧ x.bytes ≤ m)
theorem dsize_fn {G : Gh} {A : Option Addr} {bs : List Int} {c : Nat} {p : Ps} (hC : CurOK G A c bs p) :
    Ct Try.prog 48 [.p 0 0] [curL A bs c p] G fun sv H' G' => sv = .v (.int .i64 (sUint 1048576 p).1) ∧ H' = [curL A bs c (sUint 1048576 p).2] ∧ G' = G := by
  have hr := sUint_range (most := 1048576) hC.isb
  refine fn_of follows [] Try.func48 rfl rfl fun E hE => ?_
  repeat' ((fail_if_success with_reducible refine Stop.mk ?_); (conv => whnf); with_reducible first | refine br_t ?_ | refine br_f ?_ | refine br_nn ?_ | refine br_ns ?_ | refine br_not ?_ | refine br_d (fun h => ?_) (fun h => ?_) | refine br_e (fun h => ?_) (fun h => ?_) | refine br_n (fun h => ?_) (fun h => ?_) | refine drw_fast (by kernel_rfl) ?_ | refine chk (by kernel_rfl) ?_ | refine stop ?_)
  all_goals refine Stop.mk ?_
  refine call_fn [0] (puint_fn 1048576 hC) rfl ⟨rfl, trivial⟩ (by decide) ?_
  rintro sv H' G' ⟨rfl, rfl, rfl⟩ -
  refine ⟨Nat.le_of_ble_eq_true rfl, ?_⟩
  repeat' ((fail_if_success with_reducible refine Stop.mk ?_); (conv => whnf); with_reducible first | refine br_t ?_ | refine br_f ?_ | refine br_nn ?_ | refine br_ns ?_ | refine br_not ?_ | refine br_d (fun h => ?_) (fun h => ?_) | refine br_e (fun h => ?_) (fun h => ?_) | refine br_n (fun h => ?_) (fun h => ?_) | refine drw_fast (by kernel_rfl) ?_ | refine chk (by kernel_rfl) ?_ | refine stop ?_)
  all_goals refine Stop.mk ?_
  rw [i64_in (n := (sUint 1048576 p).1) (by omega) (by omega)]
  exact fin_all ⟨rfl, rfl, rfl⟩
theorem tmod2 {l : Int} (h : 0 ≤ l) : l.tmod 2 = l % 2 ∧ l.tdiv 2 = l / 2 := ⟨Int.tmod_eq_emod_of_nonneg h, Int.tdiv_eq_ediv_of_nonneg h⟩
theorem relP_lo {vregs : Int} {s : PS} {v l : Int} (h : relP vregs s v l) : 0 ≤ v ∧ v ≤ vregs ∧ -1 ≤ l ∧ l ≤ 3000000 := by
  obtain ⟨⟨g1, g2, g3⟩, rfl, g4, g5, g6⟩ := h
  refine ⟨g1, g2, ?_, g6⟩
  rcases hs1 : s.1 with _ | _
  · have := g5 hs1; omega
  · have := g4 hs1; omega
set_option maxHeartbeats 8000000 in
theorem dpairs_fn {G : Gh} {A : Option Addr} {bs : List Int} {c : Nat} {p : Ps} (x : Cst) (n : Int) (s t : Shp) (hC : CurOK G A c bs p) (hn : n ≤ 1048576) (hs : okShp s) (ht : okShp t) :
    Ct Try.prog 54 [.p 0 0, .p 1 0, .v (.int .i64 n), s.sv, t.sv] [xO x, curL A bs c p] G fun sv H' G' => sv = .tup [] ∧ ∃ q, H' = [xO x, curL A bs c q] ∧ Eqv q (sPrs s.regs t.regs t.slots n p).2 ∧ q.1 <:+ p.1 ∧ G' = G := by
  obtain ⟨_, hs1, _, _⟩ := hs
  obtain ⟨_, ht1, ht2, _⟩ := ht
  refine fn_of follows [] Try.func54 rfl rfl fun E hE => ?_
  unfold xO Shp.sv
  repeat' ((fail_if_success with_reducible refine Stop.mk ?_); (conv => whnf); with_reducible first | refine br_t ?_ | refine br_f ?_ | refine br_nn ?_ | refine br_ns ?_ | refine br_not ?_ | refine br_d (fun h => ?_) (fun h => ?_) | refine br_e (fun h => ?_) (fun h => ?_) | refine br_n (fun h => ?_) (fun h => ?_) | refine drw_fast (by kernel_rfl) ?_ | refine chk (by kernel_rfl) ?_ | refine stop ?_)
  all_goals refine Stop.mk ?_
  refine loop_vars follows [] (α := Nat × Int × Int × Ps × PS × Ps × List Pr) (fun y => [(10, .v (.int .i64 y.2.1)), (11, .v (.int .i64 y.2.2.1)), (12, .v (.int .i64 y.1))])
    (fun y => [.cells 58 [.v (.int .i64 x.blocks), .v (.int .i64 x.instrs), .v (.int .i64 x.pairs), .v (.int .i64 x.bytes)], curL A bs c y.2.2.2.1, .cells 67 [.v (.int .i64 s.args), .v (.int .i64 s.regs), .v (.int .i64 s.slots), .v (.int .i64 s.blocks)], .cells 67 [.v (.int .i64 t.args), .v (.int .i64 t.regs), .v (.int .i64 t.slots), .v (.int .i64 t.blocks)]]) (fun y => G)
    (fun y => y.1 ≤ n.toNat ∧ CurOK G A c bs y.2.2.2.1 ∧ y.2.2.2.1.1 <:+ p.1 ∧ Eqv y.2.2.2.1 y.2.2.2.2.2.1 ∧ Run (sPr s.regs t.regs t.slots) nxP n.toNat ps0 p y.1 y.2.2.2.2.1 y.2.2.2.2.2.1 y.2.2.2.2.2.2 ∧ (y.2.2.2.1.2 = 0 → relP s.regs y.2.2.2.2.1 y.2.1 y.2.2.1))
    (fun y => n.toNat - y.1) (0, 0, -1, p, ps0, p, [])
    ⟨Nat.zero_le _, hC, List.suffix_refl _, .inl rfl, Run.start _ _ _, fun _ => ⟨ps0_good hs1.1, rfl, fun _ => rfl, fun h => absurd (show true = false from h) (by decide), show (-1 : Int) ≤ 3000000 by decide⟩⟩ rfl rfl ?_ ?_
  ·
    refine ⟨?_⟩
    (conv => whnf)
    (repeat' (first | exact trivial | exact .inl rfl | exact .inr rfl | refine And.intro ?_ ?_))
  rintro ⟨k, v, l, q, S, r, acc⟩ ⟨hk, hCq, hsf, hqv, hrun, hrel⟩
  dsimp only at hk hCq hsf hqv hrun hrel ⊢
  have hw2 : IntKind.i64.wrap ((k : Int) + 1) = ((k + 1 : Nat) : Int) := by rw [i64_in (by omega) (by omega)]; simp
  have hexit : ∀ (hd : n.toNat ≤ k ∨ q.2 ≠ 0), sPrs s.regs t.regs t.slots n p = (acc, r) := fun hd => hrun.done (hd.imp id fun h => hqv.err h)
  repeat' ((fail_if_success with_reducible refine Stop.mk ?_); (conv => whnf); with_reducible first | refine br_t ?_ | refine br_f ?_ | refine br_nn ?_ | refine br_ns ?_ | refine br_not ?_ | refine br_d (fun h => ?_) (fun h => ?_) | refine br_e (fun h => ?_) (fun h => ?_) | refine br_n (fun h => ?_) (fun h => ?_) | refine drw_fast (by kernel_rfl) ?_ | refine chk (by kernel_rfl) ?_ | refine stop ?_)
  all_goals refine Stop.mk ?_
  ·
    refine call_fn [1] (perr_fn (p := q)) rfl ⟨rfl, trivial⟩ (by decide) ?_
    rintro sv H' G' ⟨rfl, rfl, rfl⟩ -
    refine ⟨Nat.le_of_ble_eq_true rfl, ?_⟩
    repeat' ((fail_if_success with_reducible refine Stop.mk ?_); (conv => whnf); with_reducible first | refine br_t ?_ | refine br_f ?_ | refine br_nn ?_ | refine br_ns ?_ | refine br_not ?_ | refine br_d (fun h => ?_) (fun h => ?_) | refine br_e (fun h => ?_) (fun h => ?_) | refine br_n (fun h => ?_) (fun h => ?_) | refine drw_fast (by kernel_rfl) ?_ | refine chk (by kernel_rfl) ?_ | refine stop ?_)
    all_goals refine Stop.mk ?_
    · have hq0 : q.2 = 0 := by assumption
      have hkk : k < n.toNat := by omega
      obtain rfl := hqv.zero hq0
      have hlo := relP_lo (hrel hq0)
      have hlaw := dPr_law hCq.isb hs1 ht1 ht2 (hrel hq0) hq0
      have hnext := hrun.next hkk hq0 (x := (sPr s.regs t.regs t.slots S r).1) (p' := (sPr s.regs t.regs t.slots S r).2) rfl (nxP S (sPr s.regs t.regs t.slots S r).1) (fun _ => rfl)
      have hsf2 := (dPr_suf s.regs t.regs t.slots v l r).trans hsf
      have hCn := hCq.next (dPr_suf s.regs t.regs t.slots v l r)
      have hCa := hCq.next (sUint_suf 18446744073709551615 r)
      have hra := sUint_range (most := 18446744073709551615) hCq.isb
      refine call_fn [1] (puint_fn 18446744073709551615 hCq) rfl ⟨rfl, trivial⟩ (by decide) ?_
      rintro sv H' G' ⟨rfl, rfl, rfl⟩ -
      refine ⟨Nat.le_of_ble_eq_true rfl, ?_⟩
      obtain ⟨a, ha⟩ : ∃ a, a = sUint 18446744073709551615 r := ⟨_, rfl⟩
      rw [← ha] at hCa hra ⊢
      have hw3 : IntKind.u64.wrap (IntKind.i64.wrap (s.regs - v)) = s.regs - v := by rw [i64_in (by omega) (by omega), IntKind.wrap_u64]; omega
      obtain ⟨p1, hp1⟩ : ∃ p1, p1 = if a.1 ≥ s.regs - v then sFail 9 a.2 else a.2 := ⟨_, rfl⟩
      have hC1 := hCa.next (q := p1) (by rw [hp1]; split <;> exact List.suffix_refl _)
      have hrd := sUint_range (most := 18446744073709551615) hC1.isb
      obtain ⟨d, hd⟩ : ∃ d, d = sUint 18446744073709551615 p1 := ⟨_, rfl⟩
      have hdp : dPr s.regs t.regs t.slots v l r = ((if a.1 > 0 then v + min a.1 1048576 else v, (if a.1 > 0 then -1 else l) + (1 + min d.1 1099511627776)), if ((if a.1 > 0 then -1 else l) + (1 + min d.1 1099511627776)) % 2 = 0 ∧ ((if a.1 > 0 then -1 else l) + (1 + min d.1 1099511627776)) / 2 ≥ t.regs ∨ ((if a.1 > 0 then -1 else l) + (1 + min d.1 1099511627776)) % 2 = 1 ∧ ((if a.1 > 0 then -1 else l) + (1 + min d.1 1099511627776)) / 2 ≥ t.slots then sFail 10 d.2 else d.2) := by rw [hd, hp1, ha]; rfl
      rw [hdp] at hlaw hsf2 hCn
      clear hdp
      rw [← hd] at hrd
      repeat' ((fail_if_success with_reducible refine Stop.mk ?_); (conv => whnf); with_reducible first | refine br_t ?_ | refine br_f ?_ | refine br_nn ?_ | refine br_ns ?_ | refine br_not ?_ | refine br_d (fun h => ?_) (fun h => ?_) | refine br_e (fun h => ?_) (fun h => ?_) | refine br_n (fun h => ?_) (fun h => ?_) | refine drw_fast (by kernel_rfl) ?_ | refine chk (by kernel_rfl) ?_ | refine stop ?_)
      all_goals refine Stop.mk ?_
      all_goals try
        have hge : a.1 ≥ s.regs - v := by rw [← hw3]; assumption
        refine call_fn [1] (pfail_fn 9 (p := a.2)) rfl ⟨rfl, trivial⟩ (by decide) ?_
        rintro sv H' G' ⟨rfl, rfl, rfl⟩ -
        refine ⟨Nat.le_of_ble_eq_true rfl, ?_⟩
        have hq2 : sFail 9 a.2 = p1 := by rw [hp1, if_pos hge]
        rw [hq2]
        clear hq2 hge
        repeat' ((fail_if_success with_reducible refine Stop.mk ?_); (conv => whnf); with_reducible first | refine br_t ?_ | refine br_f ?_ | refine br_nn ?_ | refine br_ns ?_ | refine br_not ?_ | refine br_d (fun h => ?_) (fun h => ?_) | refine br_e (fun h => ?_) (fun h => ?_) | refine br_n (fun h => ?_) (fun h => ?_) | refine drw_fast (by kernel_rfl) ?_ | refine chk (by kernel_rfl) ?_ | refine stop ?_)
        all_goals refine Stop.mk ?_
      all_goals try
        have hge : ¬ a.1 ≥ s.regs - v := by rw [← hw3]; assumption
        have hq2 : a.2 = p1 := by rw [hp1, if_neg hge]
        rw [hq2]
        clear hq2 hge
      all_goals
        clear hp1 hw3
        refine call_fn [1] (puint_fn 18446744073709551615 hC1) rfl ⟨rfl, trivial⟩ (by decide) ?_
        rintro sv H' G' ⟨rfl, rfl, rfl⟩ -
        refine ⟨Nat.le_of_ble_eq_true rfl, ?_⟩
        rw [← hd]
        clear hd ha
        have hmin : (if 1099511627776 < d.1 then 1099511627776 else d.1) = min d.1 1099511627776 := by split <;> omega
        have hmin2 : (if 1048576 < a.1 then 1048576 else a.1) = min a.1 1048576 := by split <;> omega
        first
          | rw [if_pos (show a.1 > 0 by assumption), if_pos (show a.1 > 0 by assumption)] at hlaw hsf2 hCn
            obtain ⟨L, hL⟩ : ∃ L, L = -1 + (1 + min d.1 1099511627776) := ⟨_, rfl⟩
            obtain ⟨V, hV⟩ : ∃ V, V = v + min a.1 1048576 := ⟨_, rfl⟩
            have e1 : IntKind.i64.wrap (-1 + IntKind.i64.wrap (1 + IntKind.i64.wrap (if 1099511627776 < d.1 then 1099511627776 else d.1))) = L := by
              rw [hmin, i64_in (n := min d.1 1099511627776) (by omega) (by omega), i64_in (n := 1 + min d.1 1099511627776) (by omega) (by omega), i64_in (by omega) (by omega), hL]
            have e0 : IntKind.i64.wrap (v + IntKind.i64.wrap (if 1048576 < a.1 then 1048576 else a.1)) = V := by
              rw [hmin2, i64_in (n := min a.1 1048576) (by omega) (by omega), i64_in (by omega) (by omega), hV]
            rw [← hV] at hlaw hsf2 hCn
          | rw [if_neg (show ¬ a.1 > 0 by assumption), if_neg (show ¬ a.1 > 0 by assumption)] at hlaw hsf2 hCn
            obtain ⟨L, hL⟩ : ∃ L, L = l + (1 + min d.1 1099511627776) := ⟨_, rfl⟩
            have e1 : IntKind.i64.wrap (l + IntKind.i64.wrap (1 + IntKind.i64.wrap (if 1099511627776 < d.1 then 1099511627776 else d.1))) = L := by
              rw [hmin, i64_in (n := min d.1 1099511627776) (by omega) (by omega), i64_in (n := 1 + min d.1 1099511627776) (by omega) (by omega), i64_in (by omega) (by omega), hL]
            have e0 : v = v := rfl
        rw [← hL] at hlaw hsf2 hCn
        have hL0 : 0 ≤ L ∧ L ≤ 2000000000000 := by omega
        dsimp only at hlaw hsf2 hCn
        first
          | (have e4 := e1
             have e2 : (IntKind.i64.wrap (-1 + IntKind.i64.wrap (1 + IntKind.i64.wrap (if 1099511627776 < d.1 then 1099511627776 else d.1)))).tmod 2 = L % 2 := by rw [e1]; exact Int.tmod_eq_emod_of_nonneg hL0.1
             have e3 : IntKind.i64.wrap ((IntKind.i64.wrap (-1 + IntKind.i64.wrap (1 + IntKind.i64.wrap (if 1099511627776 < d.1 then 1099511627776 else d.1)))).tdiv 2) = L / 2 := by rw [e1, Int.tdiv_eq_ediv_of_nonneg hL0.1, i64_in (by omega) (by omega)])
          | (have e2 : (IntKind.i64.wrap (l + IntKind.i64.wrap (1 + IntKind.i64.wrap (if 1099511627776 < d.1 then 1099511627776 else d.1)))).tmod 2 = L % 2 := by rw [e1]; exact Int.tmod_eq_emod_of_nonneg hL0.1
             have e3 : IntKind.i64.wrap ((IntKind.i64.wrap (l + IntKind.i64.wrap (1 + IntKind.i64.wrap (if 1099511627776 < d.1 then 1099511627776 else d.1)))).tdiv 2) = L / 2 := by rw [e1, Int.tdiv_eq_ediv_of_nonneg hL0.1, i64_in (by omega) (by omega)])
        clear hmin hmin2 hL
        repeat' ((fail_if_success with_reducible refine Stop.mk ?_); (conv => whnf); with_reducible first | refine br_t ?_ | refine br_f ?_ | refine br_nn ?_ | refine br_ns ?_ | refine br_not ?_ | refine br_d (fun h => ?_) (fun h => ?_) | refine br_e (fun h => ?_) (fun h => ?_) | refine br_n (fun h => ?_) (fun h => ?_) | refine drw_fast (by kernel_rfl) ?_ | refine chk (by kernel_rfl) ?_ | refine stop ?_)
        all_goals refine Stop.mk ?_
      all_goals try (exfalso; omega)
      all_goals
        first
          | (have hgood : ¬ (L % 2 = 0 ∧ L / 2 ≥ t.regs ∨ L % 2 = 1 ∧ L / 2 ≥ t.slots) := by omega
             rw [if_neg hgood] at hlaw hsf2 hCn)
          | (have hbad : L % 2 = 0 ∧ L / 2 ≥ t.regs ∨ L % 2 = 1 ∧ L / 2 ≥ t.slots := by omega
             rw [if_pos hbad] at hlaw hsf2 hCn
             refine call_fn [1] (pfail_fn 10 (p := d.2)) rfl ⟨rfl, trivial⟩ (by decide) ?_
             rintro sv H' G' ⟨rfl, rfl, rfl⟩ -
             refine ⟨Nat.le_of_ble_eq_true rfl, ?_⟩
             repeat' ((fail_if_success with_reducible refine Stop.mk ?_); (conv => whnf); with_reducible first | refine br_t ?_ | refine br_f ?_ | refine br_nn ?_ | refine br_ns ?_ | refine br_not ?_ | refine br_d (fun h => ?_) (fun h => ?_) | refine br_e (fun h => ?_) (fun h => ?_) | refine br_n (fun h => ?_) (fun h => ?_) | refine drw_fast (by kernel_rfl) ?_ | refine chk (by kernel_rfl) ?_ | refine stop ?_)
             all_goals refine Stop.mk ?_)
      all_goals
        rw [hw2]
        first
          | refine tell_here ⟨(k + 1, IntKind.i64.wrap (v + IntKind.i64.wrap (if 1048576 < a.1 then 1048576 else a.1)), IntKind.i64.wrap (-1 + IntKind.i64.wrap (1 + IntKind.i64.wrap (if 1099511627776 < d.1 then 1099511627776 else d.1))), _, _, _, _), ⟨by show k + 1 ≤ n.toNat; omega, hCn, hsf2, hlaw.1, hnext, fun h0 => ?_⟩, by show n.toNat - (k + 1) < n.toNat - k; omega, rfl, rfl, ?_⟩
            · show relP s.regs _ (IntKind.i64.wrap (v + IntKind.i64.wrap (if 1048576 < a.1 then 1048576 else a.1))) (IntKind.i64.wrap (-1 + IntKind.i64.wrap (1 + IntKind.i64.wrap (if 1099511627776 < d.1 then 1099511627776 else d.1))))
              rw [e0, e1]; exact hlaw.2 h0
            ·
              refine ⟨?_⟩
              (conv => whnf)
              (repeat' (first | exact trivial | exact .inl rfl | exact .inr rfl | refine And.intro ?_ ?_))
          | refine tell_here ⟨(k + 1, v, IntKind.i64.wrap (l + IntKind.i64.wrap (1 + IntKind.i64.wrap (if 1099511627776 < d.1 then 1099511627776 else d.1))), _, _, _, _), ⟨by show k + 1 ≤ n.toNat; omega, hCn, hsf2, hlaw.1, hnext, fun h0 => ?_⟩, by show n.toNat - (k + 1) < n.toNat - k; omega, rfl, rfl, ?_⟩
            · show relP s.regs _ v (IntKind.i64.wrap (l + IntKind.i64.wrap (1 + IntKind.i64.wrap (if 1099511627776 < d.1 then 1099511627776 else d.1))))
              rw [e1]; exact hlaw.2 h0
            ·
              refine ⟨?_⟩
              (conv => whnf)
              (repeat' (first | exact trivial | exact .inl rfl | exact .inr rfl | refine And.intro ?_ ?_))
    · have he := hexit (.inr (by assumption))
      exact fin_id hE 2 rfl rfl rfl rfl ⟨rfl, q, rfl, by rw [he]; exact hqv, hsf, rfl⟩
  · have he := hexit (.inl (by omega))
    exact fin_id hE 2 rfl rfl rfl rfl ⟨rfl, q, rfl, by rw [he]; exact hqv, hsf, rfl⟩
end Go.Proofs.Ytkhajngpcgmpnaa.Cu
