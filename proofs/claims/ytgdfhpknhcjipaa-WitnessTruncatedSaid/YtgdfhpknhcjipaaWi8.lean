/- The law: what is cut off is too short. -/
import Derived.Test.YtgdfhpknhcjipaaWi7
namespace Go.Proofs.Ytgdfhpknhcjipaa.Cu
open Go Go.SX Go.Proofs.Ytgdfhpknhcjipaa.VT
set_option maxRecDepth 100000
set_option linter.unusedVariables false
set_option linter.unusedSimpArgs false

theorem sh1' : ∀ e : Int, e = 1 → e ≠ 0 := by omega
theorem isB_nil' : isB [] := fun x hx => by simp at hx
theorem isB_app3 {l m : List Int} (h : isB l) (h2 : isB m) : isB (l ++ m) := fun x hx => by
  rcases List.mem_append.1 hx with hx | hx
  · exact h x hx
  · exact h2 x hx
theorem putB_isb' (n : Nat) (h : n < 18446744073709551616) : isB (putB n) := vput_byte 9 n (by simpa using h)
theorem pU_isb' (n : Int) : isB (pU n) := putB_isb' _ (by have := pU_nat n; omega)
theorem encPrs_isb (ps : List Pr) : ∀ s, isB (encL encPr nxP s ps) := by
  induction ps with
  | nil => exact fun s => isB_nil'
  | cons p ps ih =>
    intro s
    refine isB_app3 (isB_app3 (pU_isb' _) ?_) (ih _)
    split
    · exact pU_isb' _
    · exact pU_isb' _
theorem encI_isb : ∀ (l : List (List Pr)), (∀ x ∈ l, x.length ≤ 1000000) → isB (encI l)
  | [], _ => isB_nil'
  | x :: l, h => isB_app3 (isB_app3 (putB_isb' _ (by have := h x (by simp); omega)) (encPrs_isb x _)) (encI_isb l fun y hy => h y (by simp [hy]))
/-- What the row says of the argument. -/
theorem wlaw {vregs regs slots : Int} (hv : 0 ≤ vregs ∧ vregs ≤ 1000000000) (hr : regs ≤ 1000000000) (hs : slots ≤ 1000000000) (n : Nat) :
    Cod (fun e => e = 1) (sInv vregs regs slots n) encI (fun l => l.length = n ∧ okInv vregs regs slots l) :=
  (Cod.inv (sh := fun e => e = 1) rfl sh1' hv hr hs n).congr (fun _ => rfl) (fun l _ => (encI_eq 0 l).symm) (fun _ => Iff.rfl)
set_option maxHeartbeats 8000000 in
theorem wtrunc_fn (G : Gh) (A : Option Addr) (c : Nat) (l : List (List Pr)) (vregs regs slots cut : Int) (hl : kPrs.S G A c l) (h1 : 0 ≤ vregs ∧ vregs < 65536) (h2 : 0 ≤ regs ∧ regs < 65536) (h3 : 0 ≤ slots ∧ slots < 65536) (h4 : 0 ≤ cut ∧ cut < 65536) :
    Ct Try.prog 7 [.v (.slice A l.length c), .v (.int .u16 vregs), .v (.int .u16 regs), .v (.int .u16 slots), .v (.int .u16 cut)] [] G fun sv H' G' => sv = .v (.bool true) ∧ H' = [] := by
  have hw1 : IntKind.i64.wrap vregs = vregs := i64_in (by omega) (by omega)
  have hw2 : IntKind.i64.wrap regs = regs := i64_in (by omega) (by omega)
  have hw3 : IntKind.i64.wrap slots = slots := i64_in (by omega) (by omega)
  have hcod := wlaw (vregs := vregs) (regs := regs) (slots := slots) (by omega) (by omega) (by omega) l.length
  have hcap := hl.cap
  refine fn_of follows [] Try.func7 rfl rfl fun E hE => ?_
  repeat' ((fail_if_success with_reducible refine Stop.mk ?_); (conv => whnf); with_reducible first | refine br_t ?_ | refine br_f ?_ | refine br_nn ?_ | refine br_ns ?_ | refine br_not ?_ | refine br_d (fun h => ?_) (fun h => ?_) | refine br_e (fun h => ?_) (fun h => ?_) | refine br_n (fun h => ?_) (fun h => ?_) | refine drw (by kernel_rfl) ?_ | refine chk (by kernel_rfl) ?_ | refine stop ?_)
  all_goals refine Stop.mk ?_
  refine call_fn [] (awake19_fn _) rfl trivial (by decide) ?_
  rintro sv H' G' ⟨rfl, rfl⟩ hg
  refine ⟨Nat.le_of_ble_eq_true rfl, ?_⟩
  replace hl := hl.to hg
  clear hg
  repeat' ((fail_if_success with_reducible refine Stop.mk ?_); (conv => whnf); with_reducible first | refine br_t ?_ | refine br_f ?_ | refine br_nn ?_ | refine br_ns ?_ | refine br_not ?_ | refine br_d (fun h => ?_) (fun h => ?_) | refine br_e (fun h => ?_) (fun h => ?_) | refine br_n (fun h => ?_) (fun h => ?_) | refine drw (by kernel_rfl) ?_ | refine chk (by kernel_rfl) ?_ | refine stop ?_)
  all_goals refine Stop.mk ?_
  refine call_fn [] (rfew15_fn _ A c l hl) rfl trivial (by decide) ?_
  rintro sv H' G' ⟨⟨r, rfl, hfew⟩, rfl, rfl⟩ -
  refine ⟨Nat.le_of_ble_eq_true rfl, ?_⟩
  cases r
  ·
    repeat' ((fail_if_success with_reducible refine Stop.mk ?_); (conv => whnf); with_reducible first | refine br_t ?_ | refine br_f ?_ | refine br_nn ?_ | refine br_ns ?_ | refine br_not ?_ | refine br_d (fun h => ?_) (fun h => ?_) | refine br_e (fun h => ?_) (fun h => ?_) | refine br_n (fun h => ?_) (fun h => ?_) | refine drw (by kernel_rfl) ?_ | refine chk (by kernel_rfl) ?_ | refine stop ?_)
    all_goals refine Stop.mk ?_
    refine call_fn [] (awake19_fn _) rfl trivial (by decide) ?_
    rintro sv H' G' ⟨rfl, rfl⟩ -
    refine ⟨Nat.le_of_ble_eq_true rfl, ?_⟩
    repeat' ((fail_if_success with_reducible refine Stop.mk ?_); (conv => whnf); with_reducible first | refine br_t ?_ | refine br_f ?_ | refine br_nn ?_ | refine br_ns ?_ | refine br_not ?_ | refine br_d (fun h => ?_) (fun h => ?_) | refine br_e (fun h => ?_) (fun h => ?_) | refine br_n (fun h => ?_) (fun h => ?_) | refine drw (by kernel_rfl) ?_ | refine chk (by kernel_rfl) ?_ | refine stop ?_)
    all_goals refine Stop.mk ?_
    exact fin_all ⟨rfl, rfl⟩
  obtain ⟨hf1, hf2⟩ := hfew rfl
  clear hfew
  repeat' ((fail_if_success with_reducible refine Stop.mk ?_); (conv => whnf); with_reducible first | refine br_t ?_ | refine br_f ?_ | refine br_nn ?_ | refine br_ns ?_ | refine br_not ?_ | refine br_d (fun h => ?_) (fun h => ?_) | refine br_e (fun h => ?_) (fun h => ?_) | refine br_n (fun h => ?_) (fun h => ?_) | refine drw (by kernel_rfl) ?_ | refine chk (by kernel_rfl) ?_ | refine stop ?_)
  all_goals refine Stop.mk ?_
  all_goals try
    refine call_fn [] (awake19_fn _) rfl trivial (by decide) ?_
    rintro sv H' G' ⟨rfl, rfl⟩ -
    refine ⟨Nat.le_of_ble_eq_true rfl, ?_⟩
    repeat' ((fail_if_success with_reducible refine Stop.mk ?_); (conv => whnf); with_reducible first | refine br_t ?_ | refine br_f ?_ | refine br_nn ?_ | refine br_ns ?_ | refine br_not ?_ | refine br_d (fun h => ?_) (fun h => ?_) | refine br_e (fun h => ?_) (fun h => ?_) | refine br_n (fun h => ?_) (fun h => ?_) | refine drw (by kernel_rfl) ?_ | refine chk (by kernel_rfl) ?_ | refine stop ?_)
    all_goals refine Stop.mk ?_
    exact fin_all ⟨rfl, rfl⟩
  rw [hw1, hw2, hw3]
  refine call_fn [] (valid15_fn _ A c l l.length vregs regs slots hl ⟨by omega, fun x hx => by have := hf2 x hx; omega⟩) rfl trivial (by decide) ?_
  rintro sv H' G' ⟨e, rfl, he, rfl, rfl⟩ -
  refine ⟨Nat.le_of_ble_eq_true rfl, ?_⟩
  repeat' ((fail_if_success with_reducible refine Stop.mk ?_); (conv => whnf); with_reducible first | refine br_t ?_ | refine br_f ?_ | refine br_nn ?_ | refine br_ns ?_ | refine br_not ?_ | refine br_d (fun h => ?_) (fun h => ?_) | refine br_e (fun h => ?_) (fun h => ?_) | refine br_n (fun h => ?_) (fun h => ?_) | refine drw (by kernel_rfl) ?_ | refine chk (by kernel_rfl) ?_ | refine stop ?_)
  all_goals refine Stop.mk ?_
  all_goals try
    refine call_fn [] (awake19_fn _) rfl trivial (by decide) ?_
    rintro sv H' G' ⟨rfl, rfl⟩ -
    refine ⟨Nat.le_of_ble_eq_true rfl, ?_⟩
    repeat' ((fail_if_success with_reducible refine Stop.mk ?_); (conv => whnf); with_reducible first | refine br_t ?_ | refine br_f ?_ | refine br_nn ?_ | refine br_ns ?_ | refine br_not ?_ | refine br_d (fun h => ?_) (fun h => ?_) | refine br_e (fun h => ?_) (fun h => ?_) | refine br_n (fun h => ?_) (fun h => ?_) | refine drw (by kernel_rfl) ?_ | refine chk (by kernel_rfl) ?_ | refine stop ?_)
    all_goals refine Stop.mk ?_
    exact fin_all ⟨rfl, rfl⟩
  have he0 : e = 0 := by omega
  have hok := (he.1 he0).2
  clear he
  have hne : 0 < l.length := by
    have : (l.length : Int) ≠ 0 := by assumption
    omega
  have hpos : 0 < (encI l).length := by
    cases l with
    | nil => simp at hne
    | cons x l => have := vput_len_pos 9 x.length; simp only [encI, List.length_append]; unfold putB; omega
  have hpr := hcod.pr l
  have hble := encI_le 400 l hf2
  have hbm := encI_isb l (fun x hx => by have := hf2 x hx; omega)
  refine call_fn [] (rput_inv_fn _ A c l hl (by omega) (by omega)) rfl trivial (by decide) ?_
  rintro sv H' G' ⟨⟨Ap, cp, rfl, hp⟩, rfl⟩ hg
  refine ⟨Nat.le_of_ble_eq_true rfl, ?_⟩
  clear hg hl
  have hcapp := hp.cap
  have htopp := hp.top
  generalize encI l = pk at *
  repeat' ((fail_if_success with_reducible refine Stop.mk ?_); (conv => whnf); with_reducible first | refine br_t ?_ | refine br_f ?_ | refine br_nn ?_ | refine br_ns ?_ | refine br_not ?_ | refine br_d (fun h => ?_) (fun h => ?_) | refine br_e (fun h => ?_) (fun h => ?_) | refine br_n (fun h => ?_) (fun h => ?_) | refine drw (by kernel_rfl) ?_ | refine chk (by kernel_rfl) ?_ | refine stop ?_)
  all_goals refine Stop.mk ?_
  refine ⟨by omega, ?_⟩
  have ek : (IntKind.i64.wrap cut).tmod (pk.length : Int) = ((cut.toNat % pk.length : Nat) : Int) := by
    rw [i64_in (by omega) (by omega), Int.tmod_eq_emod_of_nonneg (by omega)]; push_cast; rw [Int.toNat_of_nonneg (by omega)]
  rw [ek]
  have hk := Nat.mod_lt cut.toNat (show pk.length > 0 by omega)
  generalize cut.toNat % pk.length = k at *
  repeat' ((fail_if_success with_reducible refine Stop.mk ?_); (conv => whnf); with_reducible first | refine br_t ?_ | refine br_f ?_ | refine br_nn ?_ | refine br_ns ?_ | refine br_not ?_ | refine br_d (fun h => ?_) (fun h => ?_) | refine br_e (fun h => ?_) (fun h => ?_) | refine br_n (fun h => ?_) (fun h => ?_) | refine drw (by kernel_rfl) ?_ | refine chk (by kernel_rfl) ?_ | refine stop ?_)
  all_goals refine Stop.mk ?_
  refine ⟨⟨by omega, by omega⟩, fun A' hA' => ?_⟩
  obtain rfl : A' = Ap := by rw [hA']; split; · rfl
                             cases Ap <;> simp [Addr.add]
  simp only [Int.toNat_natCast, Nat.sub_zero]
  have htk : (pk.take k).length = k := by rw [List.length_take]; omega
  have hpk : ∀ G', SlB G' A' cp pk → SlB G' A' cp (pk.take k) := fun G' h => by unfold SlB; rw [htk]; exact slB_take h k (by omega)
  repeat' ((fail_if_success with_reducible refine Stop.mk ?_); (conv => whnf); with_reducible first | refine br_t ?_ | refine br_f ?_ | refine br_nn ?_ | refine br_ns ?_ | refine br_not ?_ | refine br_d (fun h => ?_) (fun h => ?_) | refine br_e (fun h => ?_) (fun h => ?_) | refine br_n (fun h => ?_) (fun h => ?_) | refine drw (by kernel_rfl) ?_ | refine chk (by kernel_rfl) ?_ | refine stop ?_)
  all_goals refine Stop.mk ?_
  have hnew := pnew_fn _ A' (pk.take k) cp (isB_take hbm k) (hpk _ hp) (by omega)
  rw [htk] at hnew
  refine call_fn [] (hnew) rfl trivial (by decide) ?_
  rintro sv H' G' ⟨A1, c1, rfl, rfl, hC⟩ -
  refine ⟨Nat.le_of_ble_eq_true rfl, ?_⟩
  repeat' ((fail_if_success with_reducible refine Stop.mk ?_); (conv => whnf); with_reducible first | refine br_t ?_ | refine br_f ?_ | refine br_nn ?_ | refine br_ns ?_ | refine br_not ?_ | refine br_d (fun h => ?_) (fun h => ?_) | refine br_e (fun h => ?_) (fun h => ?_) | refine br_n (fun h => ?_) (fun h => ?_) | refine drw (by kernel_rfl) ?_ | refine chk (by kernel_rfl) ?_ | refine stop ?_)
  all_goals refine Stop.mk ?_
  rw [hw1, hw2, hw3]
  have hsh := hpr k ⟨rfl, hok⟩ hk
  refine call_fn [0] (get_inv_fn l.length vregs regs slots hC (by omega) (by omega) (by omega) (by omega)) rfl ⟨rfl, trivial⟩ (by decide) ?_
  rw [if_neg (by rw [hsh]; decide)]
  rintro sv H' G' ⟨⟨A4, c4, rfl, hn⟩, rfl⟩ -
  refine ⟨Nat.le_of_ble_eq_true rfl, ?_⟩
  repeat' ((fail_if_success with_reducible refine Stop.mk ?_); (conv => whnf); with_reducible first | refine br_t ?_ | refine br_f ?_ | refine br_nn ?_ | refine br_ns ?_ | refine br_not ?_ | refine br_d (fun h => ?_) (fun h => ?_) | refine br_e (fun h => ?_) (fun h => ?_) | refine br_n (fun h => ?_) (fun h => ?_) | refine drw (by kernel_rfl) ?_ | refine chk (by kernel_rfl) ?_ | refine stop ?_)
  all_goals refine Stop.mk ?_
  refine call_fn [0] (perr_fn) rfl ⟨rfl, trivial⟩ (by decide) ?_
  rintro sv H' G' ⟨rfl, rfl, rfl⟩ -
  refine ⟨Nat.le_of_ble_eq_true rfl, ?_⟩
  rw [hsh]
  repeat' ((fail_if_success with_reducible refine Stop.mk ?_); (conv => whnf); first | with_reducible refine br_t ?_ | with_reducible refine br_f ?_ | with_reducible refine br_nn ?_ | with_reducible refine br_ns ?_ | with_reducible refine br_not ?_ | ((with_reducible refine br_d (fun h => ?_) (fun h => ?_)) <;> try (exfalso; omega)) | ((with_reducible refine br_e (fun h => ?_) (fun h => ?_)) <;> try (exfalso; omega)) | ((with_reducible refine br_n (fun h => ?_) (fun h => ?_)) <;> try (exfalso; omega)) | with_reducible refine drw (by kernel_rfl) ?_ | with_reducible refine chk (by kernel_rfl) ?_ | with_reducible refine stop ?_)
  all_goals refine Stop.mk ?_
  exact fin_id hE 0 rfl rfl rfl rfl ⟨rfl, rfl⟩
end Go.Proofs.Ytgdfhpknhcjipaa.Cu
