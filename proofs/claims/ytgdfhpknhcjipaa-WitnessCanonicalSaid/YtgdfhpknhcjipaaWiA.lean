/- The law: what is read is right, and its encoding is what was read. -/
import Derived.Test.YtgdfhpknhcjipaaWi8
namespace Go.Proofs.Ytgdfhpknhcjipaa.Cu
open Go Go.SX Go.Proofs.Ytgdfhpknhcjipaa.VT
set_option maxRecDepth 100000
set_option linter.unusedVariables false
set_option linter.unusedSimpArgs false
theorem encI_mem : ∀ (l : List (List Pr)) (x : List Pr), x ∈ l → 2 * x.length ≤ (encI l).length
  | [], x, h => by simp at h
  | y :: l, x, h => by
    simp only [encI, List.length_append]
    rcases List.mem_cons.1 h with rfl | h
    · have : 2 * x.length ≤ (encPrs x).length := encL_len 2 encPr_len ps0 x
      omega
    · have := encI_mem l x h; omega
theorem same_fnN (G : Gh) (A B : Option Addr) (n c d : Nat) (xs ys : List Int) (hn : n = xs.length) (hs : SlB G A c xs) (ht : SlB G B d ys) :
    Ct Try.prog 18 [.v (.slice A n c), .v (.slice B ys.length d)] [] G fun sv H' G' => sv = .v (.bool (decide (xs = ys))) ∧ H' = [] ∧ G' = G := by
  subst hn; exact same_fn G A B c d xs ys hs ht
set_option maxHeartbeats 8000000 in
theorem wcan_fn (G : Gh) (A : Option Addr) (c : Nat) (b : List Int) (blocks vregs regs slots : Int) (hbb : isB b) (hsb : SlB G A c b) (h0 : 0 ≤ blocks ∧ blocks < 256) (h1 : 0 ≤ vregs ∧ vregs < 65536) (h2 : 0 ≤ regs ∧ regs < 65536) (h3 : 0 ≤ slots ∧ slots < 65536) :
    Ct Try.prog 10 [.v (.slice A b.length c), .v (.int .u8 blocks), .v (.int .u16 vregs), .v (.int .u16 regs), .v (.int .u16 slots)] [] G fun sv H' G' => sv = .v (.bool true) ∧ H' = [] := by
  have hw0 : IntKind.i64.wrap blocks = blocks := i64_in (by omega) (by omega)
  have hw1 : IntKind.i64.wrap vregs = vregs := i64_in (by omega) (by omega)
  have hw2 : IntKind.i64.wrap regs = regs := i64_in (by omega) (by omega)
  have hw3 : IntKind.i64.wrap slots = slots := i64_in (by omega) (by omega)
  have hca := (wlaw (vregs := vregs) (regs := regs) (slots := slots) (by omega) (by omega) (by omega) blocks.toNat).ca b hbb
  rw [Int.toNat_of_nonneg h0.1] at hca
  have hcapb := hsb.cap
  have htopb := hsb.top
  refine fn_of follows [] Try.func10 rfl rfl fun E hE => ?_
  repeat' ((fail_if_success with_reducible refine Stop.mk ?_); (conv => whnf); with_reducible first | refine br_t ?_ | refine br_f ?_ | refine br_nn ?_ | refine br_ns ?_ | refine br_not ?_ | refine br_d (fun h => ?_) (fun h => ?_) | refine br_e (fun h => ?_) (fun h => ?_) | refine br_n (fun h => ?_) (fun h => ?_) | refine drw (by kernel_rfl) ?_ | refine chk (by kernel_rfl) ?_ | refine stop ?_)
  all_goals refine Stop.mk ?_
  refine call_fn [] (awake19_fn _) rfl trivial (by decide) ?_
  rintro sv H' G' ⟨rfl, rfl⟩ hg
  refine ⟨Nat.le_of_ble_eq_true rfl, ?_⟩
  replace hsb := hsb.to hg
  clear hg
  repeat' ((fail_if_success with_reducible refine Stop.mk ?_); (conv => whnf); with_reducible first | refine br_t ?_ | refine br_f ?_ | refine br_nn ?_ | refine br_ns ?_ | refine br_not ?_ | refine br_d (fun h => ?_) (fun h => ?_) | refine br_e (fun h => ?_) (fun h => ?_) | refine br_n (fun h => ?_) (fun h => ?_) | refine drw (by kernel_rfl) ?_ | refine chk (by kernel_rfl) ?_ | refine stop ?_)
  all_goals refine Stop.mk ?_
  all_goals try
    refine call_fn [] (awake19_fn _) rfl trivial (by decide) ?_
    rintro sv H' G' ⟨rfl, rfl⟩ -
    refine ⟨Nat.le_of_ble_eq_true rfl, ?_⟩
    repeat' ((fail_if_success with_reducible refine Stop.mk ?_); (conv => whnf); with_reducible first | refine br_t ?_ | refine br_f ?_ | refine br_nn ?_ | refine br_ns ?_ | refine br_not ?_ | refine br_d (fun h => ?_) (fun h => ?_) | refine br_e (fun h => ?_) (fun h => ?_) | refine br_n (fun h => ?_) (fun h => ?_) | refine drw (by kernel_rfl) ?_ | refine chk (by kernel_rfl) ?_ | refine stop ?_)
    all_goals refine Stop.mk ?_
    exact fin_all ⟨rfl, rfl⟩
  refine call_fn [] (pnew_fn _ A b c hbb hsb (by omega)) rfl trivial (by decide) ?_
  rintro sv H' G' ⟨A1, c1, rfl, rfl, hC⟩ hg
  refine ⟨Nat.le_of_ble_eq_true rfl, ?_⟩
  replace hsb := hsb.to hg
  clear hg
  repeat' ((fail_if_success with_reducible refine Stop.mk ?_); (conv => whnf); with_reducible first | refine br_t ?_ | refine br_f ?_ | refine br_nn ?_ | refine br_ns ?_ | refine br_not ?_ | refine br_d (fun h => ?_) (fun h => ?_) | refine br_e (fun h => ?_) (fun h => ?_) | refine br_n (fun h => ?_) (fun h => ?_) | refine drw (by kernel_rfl) ?_ | refine chk (by kernel_rfl) ?_ | refine stop ?_)
  all_goals refine Stop.mk ?_
  rw [hw0, hw1, hw2, hw3]
  refine call_fn [0] (get_inv_fn blocks vregs regs slots hC (by omega) (by omega) (by omega) (by omega)) rfl ⟨rfl, trivial⟩ (by decide) ?_
  have hsuf : (sInv vregs regs slots blocks (b, 0)).2.1 <:+ b := rep_suf (fun t p => sBlk_suf vregs regs slots t p) (nx := nxT) blocks.toNat 0 (b, 0)
  generalize sInv vregs regs slots blocks (b, 0) = si at *
  obtain ⟨l, r, e⟩ := si
  dsimp only at hca hsuf ⊢
  rintro sv H' G' ⟨⟨A4, c4, rfl, hn⟩, rfl⟩ hg
  replace hsb := hsb.to hg
  replace hC : CurOK _ A1 c1 b (r, e) := (hC.to hg).next hsuf
  clear hg
  refine ⟨Nat.le_of_ble_eq_true rfl, ?_⟩
  rcases Decidable.em (e = 0) with he | he
  · subst he
    rw [if_pos rfl] at hn ⊢
    obtain ⟨⟨hll, hok⟩, hbe⟩ := hca rfl
    have hel : (encI l).length ≤ b.length := by rw [hbe, List.length_append]; omega
    repeat' ((fail_if_success with_reducible refine Stop.mk ?_); (conv => whnf); with_reducible first | refine br_t ?_ | refine br_f ?_ | refine br_nn ?_ | refine br_ns ?_ | refine br_not ?_ | refine br_d (fun h => ?_) (fun h => ?_) | refine br_e (fun h => ?_) (fun h => ?_) | refine br_n (fun h => ?_) (fun h => ?_) | refine drw (by kernel_rfl) ?_ | refine chk (by kernel_rfl) ?_ | refine stop ?_)
    all_goals refine Stop.mk ?_
    refine call_fn [0] (perr_fn (p := (r, 0))) rfl ⟨rfl, trivial⟩ (by decide) ?_
    rintro sv H' G' ⟨rfl, rfl, rfl⟩ -
    refine ⟨Nat.le_of_ble_eq_true rfl, ?_⟩
    dsimp only
    repeat' ((fail_if_success with_reducible refine Stop.mk ?_); (conv => whnf); first | with_reducible refine br_t ?_ | with_reducible refine br_f ?_ | with_reducible refine br_nn ?_ | with_reducible refine br_ns ?_ | with_reducible refine br_not ?_ | ((with_reducible refine br_d (fun h => ?_) (fun h => ?_)) <;> try (exfalso; omega)) | ((with_reducible refine br_e (fun h => ?_) (fun h => ?_)) <;> try (exfalso; omega)) | ((with_reducible refine br_n (fun h => ?_) (fun h => ?_)) <;> try (exfalso; omega)) | with_reducible refine drw (by kernel_rfl) ?_ | with_reducible refine chk (by kernel_rfl) ?_ | with_reducible refine stop ?_)
    all_goals refine Stop.mk ?_
    refine call_fn [] (rput_inv_fn _ A4 c4 l hn (by omega) (by omega)) rfl trivial (by decide) ?_
    rintro sv H' G' ⟨⟨Ap, cp, rfl, hp⟩, rfl⟩ hg
    refine ⟨Nat.le_of_ble_eq_true rfl, ?_⟩
    replace hn := hn.to hg
    replace hsb := hsb.to hg
    replace hC := hC.to hg
    clear hg
    repeat' ((fail_if_success with_reducible refine Stop.mk ?_); (conv => whnf); with_reducible first | refine br_t ?_ | refine br_f ?_ | refine br_nn ?_ | refine br_ns ?_ | refine br_not ?_ | refine br_d (fun h => ?_) (fun h => ?_) | refine br_e (fun h => ?_) (fun h => ?_) | refine br_n (fun h => ?_) (fun h => ?_) | refine drw (by kernel_rfl) ?_ | refine chk (by kernel_rfl) ?_ | refine stop ?_)
    all_goals refine Stop.mk ?_
    rw [hw0, hw1, hw2, hw3]
    refine call_fn [] (valid15_fn _ A4 c4 l blocks vregs regs slots hn ⟨by omega, fun x hx => by have := encI_mem l x hx; omega⟩) rfl trivial (by decide) ?_
    rintro sv H' G' ⟨e, rfl, he, rfl, rfl⟩ -
    have he0 : e = 0 := he.2 ⟨by omega, hok⟩
    subst he0
    refine ⟨Nat.le_of_ble_eq_true rfl, ?_⟩
    have htk : b.take (encI l).length = encI l := by rw [hbe]; simp
    have hbl : b.length - r.length = (encI l).length := by rw [hbe, List.length_append]; omega
    clear hca hbe he
    generalize encI l = pk at *
    repeat' ((fail_if_success with_reducible refine Stop.mk ?_); (conv => whnf); first | with_reducible refine br_t ?_ | with_reducible refine br_f ?_ | with_reducible refine br_nn ?_ | with_reducible refine br_ns ?_ | with_reducible refine br_not ?_ | ((with_reducible refine br_d (fun h => ?_) (fun h => ?_)) <;> try (exfalso; omega)) | ((with_reducible refine br_e (fun h => ?_) (fun h => ?_)) <;> try (exfalso; omega)) | ((with_reducible refine br_n (fun h => ?_) (fun h => ?_)) <;> try (exfalso; omega)) | with_reducible refine drw (by kernel_rfl) ?_ | with_reducible refine chk (by kernel_rfl) ?_ | with_reducible refine stop ?_)
    all_goals refine Stop.mk ?_
    refine call_fn [0] (pat_fn (p := (r, 0))) rfl ⟨rfl, trivial⟩ (by decide) ?_
    rintro sv H' G' ⟨rfl, rfl, rfl⟩ -
    refine ⟨Nat.le_of_ble_eq_true rfl, ?_⟩
    dsimp only
    rw [hbl]
    repeat' ((fail_if_success with_reducible refine Stop.mk ?_); (conv => whnf); first | with_reducible refine br_t ?_ | with_reducible refine br_f ?_ | with_reducible refine br_nn ?_ | with_reducible refine br_ns ?_ | with_reducible refine br_not ?_ | ((with_reducible refine br_d (fun h => ?_) (fun h => ?_)) <;> try (exfalso; omega)) | ((with_reducible refine br_e (fun h => ?_) (fun h => ?_)) <;> try (exfalso; omega)) | ((with_reducible refine br_n (fun h => ?_) (fun h => ?_)) <;> try (exfalso; omega)) | with_reducible refine drw (by kernel_rfl) ?_ | with_reducible refine chk (by kernel_rfl) ?_ | with_reducible refine stop ?_)
    all_goals refine Stop.mk ?_
    refine ⟨⟨by omega, by omega⟩, fun A2 hA2 => ?_⟩
    have hA3 : A2 = A := by
      rw [hA2]
      split
      · rfl
      · cases A <;> simp [Addr.add]
    subst hA3
    rw [Int.toNat_natCast, Nat.sub_zero, Nat.sub_zero]
    dsimp only
    have hs2 := slB_take hsb pk.length (by omega)
    rw [htk] at hs2
    repeat' ((fail_if_success with_reducible refine Stop.mk ?_); (conv => whnf); with_reducible first | refine br_t ?_ | refine br_f ?_ | refine br_nn ?_ | refine br_ns ?_ | refine br_not ?_ | refine br_d (fun h => ?_) (fun h => ?_) | refine br_e (fun h => ?_) (fun h => ?_) | refine br_n (fun h => ?_) (fun h => ?_) | refine drw (by kernel_rfl) ?_ | refine chk (by kernel_rfl) ?_ | refine stop ?_)
    all_goals refine Stop.mk ?_
    refine call_fn [] (same_fnN _ A2 Ap pk.length c cp pk pk rfl hs2 hp) rfl trivial (by decide) ?_
    rintro sv H' G' ⟨rfl, rfl, rfl⟩ -
    refine ⟨Nat.le_of_ble_eq_true rfl, ?_⟩
    rw [decide_eq_true rfl]
    repeat' ((fail_if_success with_reducible refine Stop.mk ?_); (conv => whnf); with_reducible first | refine br_t ?_ | refine br_f ?_ | refine br_nn ?_ | refine br_ns ?_ | refine br_not ?_ | refine br_d (fun h => ?_) (fun h => ?_) | refine br_e (fun h => ?_) (fun h => ?_) | refine br_n (fun h => ?_) (fun h => ?_) | refine drw (by kernel_rfl) ?_ | refine chk (by kernel_rfl) ?_ | refine stop ?_)
    all_goals refine Stop.mk ?_
    exact fin_id hE 0 rfl rfl rfl rfl ⟨rfl, rfl⟩
  · rw [if_neg he] at hn ⊢
    repeat' ((fail_if_success with_reducible refine Stop.mk ?_); (conv => whnf); with_reducible first | refine br_t ?_ | refine br_f ?_ | refine br_nn ?_ | refine br_ns ?_ | refine br_not ?_ | refine br_d (fun h => ?_) (fun h => ?_) | refine br_e (fun h => ?_) (fun h => ?_) | refine br_n (fun h => ?_) (fun h => ?_) | refine drw (by kernel_rfl) ?_ | refine chk (by kernel_rfl) ?_ | refine stop ?_)
    all_goals refine Stop.mk ?_
    refine call_fn [0] (perr_fn (p := (r, e))) rfl ⟨rfl, trivial⟩ (by decide) ?_
    rintro sv H' G' ⟨rfl, rfl, rfl⟩ -
    refine ⟨Nat.le_of_ble_eq_true rfl, ?_⟩
    dsimp only
    repeat' ((fail_if_success with_reducible refine Stop.mk ?_); (conv => whnf); first | with_reducible refine br_t ?_ | with_reducible refine br_f ?_ | with_reducible refine br_nn ?_ | with_reducible refine br_ns ?_ | with_reducible refine br_not ?_ | ((with_reducible refine br_d (fun h => ?_) (fun h => ?_)) <;> try (exfalso; omega)) | ((with_reducible refine br_e (fun h => ?_) (fun h => ?_)) <;> try (exfalso; omega)) | ((with_reducible refine br_n (fun h => ?_) (fun h => ?_)) <;> try (exfalso; omega)) | with_reducible refine drw (by kernel_rfl) ?_ | with_reducible refine chk (by kernel_rfl) ?_ | with_reducible refine stop ?_)
    all_goals refine Stop.mk ?_
    exact fin_id hE 0 rfl rfl rfl rfl ⟨rfl, rfl⟩
end Go.Proofs.Ytgdfhpknhcjipaa.Cu
