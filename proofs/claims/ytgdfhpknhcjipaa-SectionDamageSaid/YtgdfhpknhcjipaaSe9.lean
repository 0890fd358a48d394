/- The law: damage is noticed. -/
import Derived.Test.YtgdfhpknhcjipaaSe5
import Derived.Test.YtgdfhpknhcjipaaSe7
namespace Go.Proofs.Ytgdfhpknhcjipaa.Cu
open Go Go.SX Go.Proofs.Ytgdfhpknhcjipaa.VT
set_option maxRecDepth 100000
set_option linter.unusedVariables false
set_option linter.unusedSimpArgs false

theorem frzB {P : Program} {f : FuncId} {args : List SV} {G : Gh} {l : List Int} (h : Ct P f args [] G fun sv H' G' => sv = .s 0 ∧ H' = [rowB l]) :
    Ct P f args [] G fun sv H' G' => (∃ A c, sv = .v (.slice A l.length c) ∧ SlB G' A c l) ∧ H' = [] :=
  h.fin fun E sv H' G' hE hp => by
    obtain ⟨rfl, rfl⟩ := hp
    exact fin_done 0 rfl (byts_one _) fun A c G2 hg hs => fin_id hE 0 rfl rfl rfl rfl ⟨⟨A, c, rfl, hs⟩, rfl⟩
theorem frzB' {P : Program} {f : FuncId} {args : List SV} {G : Gh} {l : List Int} (h : Ct P f args [] G fun sv H' G' => sv = .s 0 ∧ H' = [rowB l] ∧ G' = G) :
    Ct P f args [] G fun sv H' G' => (∃ A c, sv = .v (.slice A l.length c) ∧ SlB G' A c l) ∧ H' = [] :=
  h.fin fun E sv H' G' hE hp => by
    obtain ⟨rfl, rfl, _⟩ := hp
    exact fin_done 0 rfl (byts_one _) fun A c G2 hg hs => fin_id hE 0 rfl rfl rfl rfl ⟨⟨A, c, rfl, hs⟩, rfl⟩
set_option maxHeartbeats 8000000 in
theorem sdamage_fn (G : Gh) (B C : Option Addr) (c2 c3 : Nat) (ids : List Int) (cs : List (List Int)) (cut more at_ : Int) (hids : kB.S G B c2 ids) (hcs : kBs.S G C c3 cs) (hcut : 0 ≤ cut ∧ cut ≤ 65535) (hmore : 0 ≤ more ∧ more ≤ 255) (hat : 0 ≤ at_ ∧ at_ ≤ 255) :
    Ct Try.prog 5 [.v (.slice B ids.length c2), .v (.slice C cs.length c3), .v (.int .u16 cut), .v (.int .u8 more), .v (.int .u8 at_)] [] G fun sv H' G' => sv = .v (.bool true) ∧ H' = [] := by
  refine fn_of follows [] Try.func5 rfl rfl fun E hE => ?_
  have hcapi := hids.cap
  have hcapc := hcs.cap
  repeat' ((fail_if_success with_reducible refine Stop.mk ?_); (conv => whnf); with_reducible first | refine br_t ?_ | refine br_f ?_ | refine br_nn ?_ | refine br_ns ?_ | refine br_not ?_ | refine br_d (fun h => ?_) (fun h => ?_) | refine br_e (fun h => ?_) (fun h => ?_) | refine br_n (fun h => ?_) (fun h => ?_) | refine drw (by kernel_rfl) ?_ | refine chk (by kernel_rfl) ?_ | refine stop ?_)
  all_goals refine Stop.mk ?_
  refine call_fn [] (awake3_fn _) rfl trivial (by decide) ?_
  rintro sv H' G' ⟨rfl, rfl⟩ hg
  refine ⟨Nat.le_of_ble_eq_true rfl, ?_⟩
  replace hids := hids.to hg
  replace hcs := hcs.to hg
  clear hg
  repeat' ((fail_if_success with_reducible refine Stop.mk ?_); (conv => whnf); with_reducible first | refine br_t ?_ | refine br_f ?_ | refine br_nn ?_ | refine br_ns ?_ | refine br_not ?_ | refine br_d (fun h => ?_) (fun h => ?_) | refine br_e (fun h => ?_) (fun h => ?_) | refine br_n (fun h => ?_) (fun h => ?_) | refine drw (by kernel_rfl) ?_ | refine chk (by kernel_rfl) ?_ | refine stop ?_)
  all_goals refine Stop.mk ?_
  all_goals try
    refine call_fn [] (awake3_fn _) rfl trivial (by decide) ?_
    rintro sv H' G' ⟨rfl, rfl⟩ -
    refine ⟨Nat.le_of_ble_eq_true rfl, ?_⟩
    repeat' ((fail_if_success with_reducible refine Stop.mk ?_); (conv => whnf); with_reducible first | refine br_t ?_ | refine br_f ?_ | refine br_nn ?_ | refine br_ns ?_ | refine br_not ?_ | refine br_d (fun h => ?_) (fun h => ?_) | refine br_e (fun h => ?_) (fun h => ?_) | refine br_n (fun h => ?_) (fun h => ?_) | refine drw (by kernel_rfl) ?_ | refine chk (by kernel_rfl) ?_ | refine stop ?_)
    all_goals refine Stop.mk ?_
    exact fin_all ⟨rfl, rfl⟩
  refine call_fn [] (rfew_fn _ C c3 cs hcs) rfl trivial (by decide) ?_
  rintro sv H' G' ⟨⟨r, rfl, hr⟩, rfl, rfl⟩ -
  refine ⟨Nat.le_of_ble_eq_true rfl, ?_⟩
  cases r
  ·
    repeat' ((fail_if_success with_reducible refine Stop.mk ?_); (conv => whnf); with_reducible first | refine br_t ?_ | refine br_f ?_ | refine br_nn ?_ | refine br_ns ?_ | refine br_not ?_ | refine br_d (fun h => ?_) (fun h => ?_) | refine br_e (fun h => ?_) (fun h => ?_) | refine br_n (fun h => ?_) (fun h => ?_) | refine drw (by kernel_rfl) ?_ | refine chk (by kernel_rfl) ?_ | refine stop ?_)
    all_goals refine Stop.mk ?_
    refine call_fn [] (awake3_fn _) rfl trivial (by decide) ?_
    rintro sv H' G' ⟨rfl, rfl⟩ -
    refine ⟨Nat.le_of_ble_eq_true rfl, ?_⟩
    repeat' ((fail_if_success with_reducible refine Stop.mk ?_); (conv => whnf); with_reducible first | refine br_t ?_ | refine br_f ?_ | refine br_nn ?_ | refine br_ns ?_ | refine br_not ?_ | refine br_d (fun h => ?_) (fun h => ?_) | refine br_e (fun h => ?_) (fun h => ?_) | refine br_n (fun h => ?_) (fun h => ?_) | refine drw (by kernel_rfl) ?_ | refine chk (by kernel_rfl) ?_ | refine stop ?_)
    all_goals refine Stop.mk ?_
    exact fin_all ⟨rfl, rfl⟩
  obtain ⟨hc1, hc2⟩ := hr rfl
  clear hr
  repeat' ((fail_if_success with_reducible refine Stop.mk ?_); (conv => whnf); with_reducible first | refine br_t ?_ | refine br_f ?_ | refine br_nn ?_ | refine br_ns ?_ | refine br_not ?_ | refine br_d (fun h => ?_) (fun h => ?_) | refine br_e (fun h => ?_) (fun h => ?_) | refine br_n (fun h => ?_) (fun h => ?_) | refine drw (by kernel_rfl) ?_ | refine chk (by kernel_rfl) ?_ | refine stop ?_)
  all_goals refine Stop.mk ?_
  all_goals try
    refine call_fn [] (awake3_fn _) rfl trivial (by decide) ?_
    rintro sv H' G' ⟨rfl, rfl⟩ -
    refine ⟨Nat.le_of_ble_eq_true rfl, ?_⟩
    repeat' ((fail_if_success with_reducible refine Stop.mk ?_); (conv => whnf); with_reducible first | refine br_t ?_ | refine br_f ?_ | refine br_nn ?_ | refine br_ns ?_ | refine br_not ?_ | refine br_d (fun h => ?_) (fun h => ?_) | refine br_e (fun h => ?_) (fun h => ?_) | refine br_n (fun h => ?_) (fun h => ?_) | refine drw (by kernel_rfl) ?_ | refine chk (by kernel_rfl) ?_ | refine stop ?_)
    all_goals refine Stop.mk ?_
    exact fin_all ⟨rfl, rfl⟩
  have hL : ids.length = cs.length := by omega
  have hsi := (kB_S hids).2
  have hok := kBs_ok hcs (by omega)
  have hlen : (packB ids cs).length = sizeB cs := packB_len ids cs hL
  have hsq := sizeB_le cs
  have hbp : isB (packB ids cs) := packB_isb hsi (fun d hd => ⟨(hok d hd).1, by have := (hok d hd).2; omega⟩)
  have hpos : 0 < (packB ids cs).length := by
    cases ids with
    | nil => exact absurd rfl (by assumption)
    | cons i is => cases cs with
      | nil => simp at hL
      | cons x xs => simp [packB]
  refine call_fn [] (frzB (rpack_fn _ B C c2 c3 ids cs hids hcs hL (by omega) (by omega))) rfl trivial (by decide) ?_
  rintro sv H' G' ⟨⟨Ap, cp, rfl, hp⟩, rfl⟩ hg
  refine ⟨Nat.le_of_ble_eq_true rfl, ?_⟩
  replace hids := hids.to hg
  clear hg hcs
  have hcapp := hp.cap
  have htopp := hp.top
  have hcut2 := @splitR_cut ids cs
  have hmore2 := splitR_more (rest := [more]) hL hsi hok (by intro x hx; simp at hx; subst hx; exact hmore) (by simp) (by simp; omega)
  have hother := @splitR_other ids cs
  generalize packB ids cs = pk at *
  repeat' ((fail_if_success with_reducible refine Stop.mk ?_); (conv => whnf); with_reducible first | refine br_t ?_ | refine br_f ?_ | refine br_nn ?_ | refine br_ns ?_ | refine br_not ?_ | refine br_d (fun h => ?_) (fun h => ?_) | refine br_e (fun h => ?_) (fun h => ?_) | refine br_n (fun h => ?_) (fun h => ?_) | refine drw (by kernel_rfl) ?_ | refine chk (by kernel_rfl) ?_ | refine stop ?_)
  all_goals refine Stop.mk ?_
  refine ⟨by omega, ?_⟩
  have ek : (IntKind.i64.wrap cut).tmod (pk.length : Int) = ((cut.toNat % pk.length : Nat) : Int) := by
    rw [i64_in (by omega) (by omega), Int.tmod_eq_emod_of_nonneg (by omega)]; push_cast; rw [Int.toNat_of_nonneg (by omega)]
  rw [ek]
  have hk := Nat.mod_lt cut.toNat hpos
  generalize cut.toNat % pk.length = k at *
  repeat' ((fail_if_success with_reducible refine Stop.mk ?_); (conv => whnf); with_reducible first | refine br_t ?_ | refine br_f ?_ | refine br_nn ?_ | refine br_ns ?_ | refine br_not ?_ | refine br_d (fun h => ?_) (fun h => ?_) | refine br_e (fun h => ?_) (fun h => ?_) | refine br_n (fun h => ?_) (fun h => ?_) | refine drw (by kernel_rfl) ?_ | refine chk (by kernel_rfl) ?_ | refine stop ?_)
  all_goals refine Stop.mk ?_
  refine ⟨⟨by omega, by omega⟩, fun A' hA' => ?_⟩
  obtain rfl : A' = Ap := by rw [hA']; split; · rfl
                             cases Ap <;> simp [Addr.add]
  simp only [Int.toNat_natCast, Nat.sub_zero]
  have htk : (pk.take k).length = k := by rw [List.length_take]; omega
  have hpk : SlB G' A' cp (pk.take k) := by unfold SlB; rw [htk]; exact slB_take hp k (by omega)
  repeat' ((fail_if_success with_reducible refine Stop.mk ?_); (conv => whnf); with_reducible first | refine br_t ?_ | refine br_f ?_ | refine br_nn ?_ | refine br_ns ?_ | refine br_not ?_ | refine br_d (fun h => ?_) (fun h => ?_) | refine br_e (fun h => ?_) (fun h => ?_) | refine br_n (fun h => ?_) (fun h => ?_) | refine drw (by kernel_rfl) ?_ | refine chk (by kernel_rfl) ?_ | refine stop ?_)
  all_goals refine Stop.mk ?_
  have hspl := split_fn _ A' B cp c2 (pk.take k) ids (isB_take hbp k) hpk hids (by omega) (by omega)
  rw [htk] at hspl
  refine call_fn [] hspl rfl trivial (by decide) ?_
  intro sv H' G' hpp hg
  have hcc := hcut2 hL hsi hok (by omega) hk
  rw [SplitPost, hcc, if_neg (by decide)] at hpp
  obtain ⟨rfl, rfl⟩ := hpp
  replace hids := hids.to hg
  replace hp := Sl.to hg hp
  clear hg hspl hpk
  refine ⟨Nat.le_of_ble_eq_true rfl, ?_⟩
  repeat' ((fail_if_success with_reducible refine Stop.mk ?_); (conv => whnf); with_reducible first | refine br_t ?_ | refine br_f ?_ | refine br_nn ?_ | refine br_ns ?_ | refine br_not ?_ | refine br_d (fun h => ?_) (fun h => ?_) | refine br_e (fun h => ?_) (fun h => ?_) | refine br_n (fun h => ?_) (fun h => ?_) | refine drw (by kernel_rfl) ?_ | refine chk (by kernel_rfl) ?_ | refine stop ?_)
  all_goals refine Stop.mk ?_
  refine call_fz 0 rfl (by simp [Value.oneCell']) (enters_of Try.func20 rfl rfl) fun Ax cx Gx hgx hsx => ?_
  (conv => whnf)
  replace hids := hids.to hgx
  replace hp := Sl.to hgx hp
  refine call_fn [] (frzB' (radd_fn _ A' Ax cp cx pk [more] hp (SlB.of [more] hsx rfl rfl rfl) (by simp; omega))) rfl trivial (by decide) ?_
  rintro sv H' G' ⟨⟨Ay, cy, rfl, hy⟩, rfl⟩ hg
  replace hids := hids.to hg
  replace hp := Sl.to hg hp
  clear hg
  refine ⟨Nat.le_of_ble_eq_true rfl, ?_⟩
  repeat' ((fail_if_success with_reducible refine Stop.mk ?_); (conv => whnf); with_reducible first | refine br_t ?_ | refine br_f ?_ | refine br_nn ?_ | refine br_ns ?_ | refine br_not ?_ | refine br_d (fun h => ?_) (fun h => ?_) | refine br_e (fun h => ?_) (fun h => ?_) | refine br_n (fun h => ?_) (fun h => ?_) | refine drw (by kernel_rfl) ?_ | refine chk (by kernel_rfl) ?_ | refine stop ?_)
  all_goals refine Stop.mk ?_
  refine call_fn [] (split_fn _ Ay B cy c2 (pk ++ [more]) ids (isB_app' hbp (by intro x hx; simp at hx; subst hx; exact hmore)) hy hids (by omega) (by simp; omega)) rfl trivial (by decide) ?_
  intro sv H' G' hpp hg
  rw [SplitPost, hmore2, if_neg (by decide)] at hpp
  obtain ⟨rfl, rfl⟩ := hpp
  replace hids := hids.to hg
  replace hp := Sl.to hg hp
  clear hg hy
  refine ⟨Nat.le_of_ble_eq_true rfl, ?_⟩
  repeat' ((fail_if_success with_reducible refine Stop.mk ?_); (conv => whnf); with_reducible first | refine br_t ?_ | refine br_f ?_ | refine br_nn ?_ | refine br_ns ?_ | refine br_not ?_ | refine br_d (fun h => ?_) (fun h => ?_) | refine br_e (fun h => ?_) (fun h => ?_) | refine br_n (fun h => ?_) (fun h => ?_) | refine drw (by kernel_rfl) ?_ | refine chk (by kernel_rfl) ?_ | refine stop ?_)
  all_goals refine Stop.mk ?_
  refine ⟨_, (kB_S hids).1, ⟨by show (0 + ids.length) * 1 ≤ _; omega, ?_⟩⟩
  simp only [Nat.zero_add, List.nil_append]
  repeat' ((fail_if_success with_reducible refine Stop.mk ?_); (conv => whnf); with_reducible first | refine br_t ?_ | refine br_f ?_ | refine br_nn ?_ | refine br_ns ?_ | refine br_not ?_ | refine br_d (fun h => ?_) (fun h => ?_) | refine br_e (fun h => ?_) (fun h => ?_) | refine br_n (fun h => ?_) (fun h => ?_) | refine drw (by kernel_rfl) ?_ | refine chk (by kernel_rfl) ?_ | refine stop ?_)
  all_goals refine Stop.mk ?_
  refine ⟨by omega, ?_⟩
  have ei : (IntKind.i64.wrap at_).tmod (ids.length : Int) = ((at_.toNat % ids.length : Nat) : Int) := by
    rw [i64_in (by omega) (by omega), Int.tmod_eq_emod_of_nonneg (by omega)]; push_cast; rw [Int.toNat_of_nonneg (by omega)]
  rw [ei]
  have hi := Nat.mod_lt at_.toNat (show 0 < ids.length by omega)
  generalize at_.toNat % ids.length = j at *
  repeat' ((fail_if_success with_reducible refine Stop.mk ?_); (conv => whnf); with_reducible first | refine br_t ?_ | refine br_f ?_ | refine br_nn ?_ | refine br_ns ?_ | refine br_not ?_ | refine br_d (fun h => ?_) (fun h => ?_) | refine br_e (fun h => ?_) (fun h => ?_) | refine br_n (fun h => ?_) (fun h => ?_) | refine drw (by kernel_rfl) ?_ | refine chk (by kernel_rfl) ?_ | refine stop ?_)
  all_goals refine Stop.mk ?_
  refine ⟨⟨by omega, by omega⟩, ?_⟩
  simp only [Int.toNat_natCast, Nat.mul_one, Nat.zero_add]
  repeat' ((fail_if_success with_reducible refine Stop.mk ?_); (conv => whnf); with_reducible first | refine br_t ?_ | refine br_f ?_ | refine br_nn ?_ | refine br_ns ?_ | refine br_not ?_ | refine br_d (fun h => ?_) (fun h => ?_) | refine br_e (fun h => ?_) (fun h => ?_) | refine br_n (fun h => ?_) (fun h => ?_) | refine drw (by kernel_rfl) ?_ | refine chk (by kernel_rfl) ?_ | refine stop ?_)
  all_goals refine Stop.mk ?_
  refine ⟨_, byts_get (xs := ids) (i := j) (by omega), ?_⟩
  have hgi := getD_isB hsi (i := j) (by omega)
  repeat' ((fail_if_success with_reducible refine Stop.mk ?_); (conv => whnf); with_reducible first | refine br_t ?_ | refine br_f ?_ | refine br_nn ?_ | refine br_ns ?_ | refine br_not ?_ | refine br_d (fun h => ?_) (fun h => ?_) | refine br_e (fun h => ?_) (fun h => ?_) | refine br_n (fun h => ?_) (fun h => ?_) | refine drw (by kernel_rfl) ?_ | refine chk (by kernel_rfl) ?_ | refine stop ?_)
  all_goals refine Stop.mk ?_
  refine ⟨⟨by omega, by omega⟩, ?_⟩
  simp only [Int.toNat_natCast, Nat.mul_one, Nat.zero_add]
  repeat' ((fail_if_success with_reducible refine Stop.mk ?_); (conv => whnf); with_reducible first | refine br_t ?_ | refine br_f ?_ | refine br_nn ?_ | refine br_ns ?_ | refine br_not ?_ | refine br_d (fun h => ?_) (fun h => ?_) | refine br_e (fun h => ?_) (fun h => ?_) | refine br_n (fun h => ?_) (fun h => ?_) | refine drw (by kernel_rfl) ?_ | refine chk (by kernel_rfl) ?_ | refine stop ?_)
  all_goals refine Stop.mk ?_
  refine ⟨by rw [byts_length]; omega, ?_⟩
  rw [byts_set]
  repeat' ((fail_if_success with_reducible refine Stop.mk ?_); (conv => whnf); with_reducible first | refine br_t ?_ | refine br_f ?_ | refine br_nn ?_ | refine br_ns ?_ | refine br_not ?_ | refine br_d (fun h => ?_) (fun h => ?_) | refine br_e (fun h => ?_) (fun h => ?_) | refine br_n (fun h => ?_) (fun h => ?_) | refine drw (by kernel_rfl) ?_ | refine chk (by kernel_rfl) ?_ | refine stop ?_)
  all_goals refine Stop.mk ?_
  have hx : ∀ y, ids[j]? = some y → y ≠ IntKind.u8.wrap (ids.getD j 0 + 1) := by
    intro y hy
    rw [List.getD_eq_getElem?_getD, hy] at *
    simp only [Option.getD_some] at *
    rw [IntKind.wrap_u8]; omega
  have hs7 := hother (i := j) (x := IntKind.u8.wrap (ids.getD j 0 + 1)) hL hsi hok (by omega) (by omega) hx
  have hbo : isB (ids.set j (IntKind.u8.wrap (ids.getD j 0 + 1))) := by
    intro z hz
    rcases List.mem_or_eq_of_mem_set hz with hz | rfl
    · exact hsi z hz
    · rw [IntKind.wrap_u8]; omega
  generalize hoo : ids.set j (IntKind.u8.wrap (ids.getD j 0 + 1)) = oth at *
  have hol : oth.length = ids.length := by rw [← hoo]; simp
  refine call_fz 1 rfl (byts_one _) (enters_of Try.func13 rfl rfl) fun Az cz Gz hgz hsz => ?_
  (conv => whnf)
  replace hp := Sl.to hgz hp
  have hspo := split_fn _ A' Az cp cz pk oth hbp hp (S_kB (SlB.of oth hsz hol.symm rfl rfl) hbo) (by omega) (by omega)
  rw [hol] at hspo
  refine call_fn [] hspo rfl trivial (by decide) ?_
  intro sv H' G' hpp hg
  rw [SplitPost, hs7, if_neg (by decide)] at hpp
  obtain ⟨rfl, rfl⟩ := hpp
  refine ⟨Nat.le_of_ble_eq_true rfl, ?_⟩
  repeat' ((fail_if_success with_reducible refine Stop.mk ?_); (conv => whnf); with_reducible first | refine br_t ?_ | refine br_f ?_ | refine br_nn ?_ | refine br_ns ?_ | refine br_not ?_ | refine br_d (fun h => ?_) (fun h => ?_) | refine br_e (fun h => ?_) (fun h => ?_) | refine br_n (fun h => ?_) (fun h => ?_) | refine drw (by kernel_rfl) ?_ | refine chk (by kernel_rfl) ?_ | refine stop ?_)
  all_goals refine Stop.mk ?_
  all_goals try (exfalso; omega)
  exact fin_id hE 0 rfl rfl rfl rfl ⟨rfl, rfl⟩
end Go.Proofs.Ytgdfhpknhcjipaa.Cu
