/- Opcodes: shapes, the reference's names. -/
import Derived.Test.YtlckmihmegnajaaDoorOc1
import Derived.Laws.Strings
namespace Go.Proofs.YtlckmihmegnajaaDoor.Cu
open Go Go.SX
set_option maxRecDepth 100000
set_option linter.unusedVariables false
set_option linter.unusedSimpArgs false
theorem i64_in {n : Int} (h1 : -9223372036854775808 ≤ n) (h2 : n ≤ 9223372036854775807) : IntKind.i64.wrap n = n := by rw [IntKind.wrap_i64]; omega
/-- What Of returns. -/
def shp (d a b i k : Bool) : SV := .tup [.agg [.v (.bool d), .v (.bool a), .v (.bool b), .v (.bool i)], .v (.bool k)]
theorem of_fn (G : Gh) (op : Int) : Ct Tryd.prog 7 [.v (.int .i64 op)] [] G fun sv H' G' => sv = shp (decide (uD op)) (decide (uA op)) (decide (uB op)) (decide (op = 1)) (decide (known op)) ∧ H' = [] ∧ G' = G := by
  refine fn_of follows [] Tryd.func7 rfl rfl fun E hE => ?_
  repeat' ((fail_if_success with_reducible refine Stop.mk ?_); (conv => whnf); with_reducible first | refine br_t ?_ | refine br_f ?_ | refine br_nn ?_ | refine br_ns ?_ | refine br_not ?_ | refine br_d (fun h => ?_) (fun h => ?_) | refine br_e (fun h => ?_) (fun h => ?_) | refine br_n (fun h => ?_) (fun h => ?_) | refine drw (by kernel_rfl) ?_ | refine chk (by kernel_rfl) ?_ | refine stop ?_)
  all_goals refine Stop.mk ?_
  refine call_fn [] (known_fn _ op) rfl trivial (by decide) ?_
  rintro sv H' G' ⟨rfl, rfl, rfl⟩ -
  refine ⟨Nat.le_of_ble_eq_true rfl, ?_⟩
  repeat' ((fail_if_success with_reducible refine Stop.mk ?_); (conv => whnf); with_reducible first | refine br_t ?_ | refine br_f ?_ | refine br_nn ?_ | refine br_ns ?_ | refine br_not ?_ | refine br_d (fun h => ?_) (fun h => ?_) | refine br_e (fun h => ?_) (fun h => ?_) | refine br_n (fun h => ?_) (fun h => ?_) | refine drw (by kernel_rfl) ?_ | refine chk (by kernel_rfl) ?_ | refine stop ?_)
  all_goals refine Stop.mk ?_
  all_goals refine fin_id hE 0 rfl rfl rfl rfl ⟨?_, rfl, rfl⟩
  all_goals
    unfold shp
    have key : ∀ {a b c d e a' b' c' d' e' : Bool}, a = a' → b = b' → c = c' → d = d' → e = e' → SV.tup [.agg [.v (.bool a), .v (.bool b), .v (.bool c), .v (.bool d)], .v (.bool e)] = .tup [.agg [.v (.bool a'), .v (.bool b'), .v (.bool c'), .v (.bool d')], .v (.bool e')] := by
      rintro _ _ _ _ _ _ _ _ _ _ rfl rfl rfl rfl rfl; rfl
    refine key ?_ ?_ ?_ ?_ ?_
  all_goals
    refine bdec ?_
    simp only [decide_eq_true_iff, beq_iff_eq, bne_iff_ne, ne_eq, Bool.false_eq_true, false_iff, true_iff, known, uD, uA, uB] at *
    omega
theorem source_fn (G : Gh) (op : Int) : Ct Tryd.prog 16 [.v (.int .i64 op)] [] G fun sv H' G' => sv = .v (.bool (decide (known op ∧ op ≠ 18))) ∧ H' = [] ∧ G' = G := by
  refine fn_of follows [] Tryd.func16 rfl rfl fun E hE => ?_
  repeat' ((fail_if_success with_reducible refine Stop.mk ?_); (conv => whnf); with_reducible first | refine br_t ?_ | refine br_f ?_ | refine br_nn ?_ | refine br_ns ?_ | refine br_not ?_ | refine br_d (fun h => ?_) (fun h => ?_) | refine br_e (fun h => ?_) (fun h => ?_) | refine br_n (fun h => ?_) (fun h => ?_) | refine drw (by kernel_rfl) ?_ | refine chk (by kernel_rfl) ?_ | refine stop ?_)
  all_goals refine Stop.mk ?_
  refine call_fn [] (known_fn _ op) rfl trivial (by decide) ?_
  rintro sv H' G' ⟨rfl, rfl, rfl⟩ -
  refine ⟨Nat.le_of_ble_eq_true rfl, ?_⟩
  repeat' ((fail_if_success with_reducible refine Stop.mk ?_); (conv => whnf); with_reducible first | refine br_t ?_ | refine br_f ?_ | refine br_nn ?_ | refine br_ns ?_ | refine br_not ?_ | refine br_d (fun h => ?_) (fun h => ?_) | refine br_e (fun h => ?_) (fun h => ?_) | refine br_n (fun h => ?_) (fun h => ?_) | refine drw (by kernel_rfl) ?_ | refine chk (by kernel_rfl) ?_ | refine stop ?_)
  all_goals refine Stop.mk ?_
  all_goals refine fin_all ⟨congrArg (fun b => SV.v (.bool b)) ?_, rfl, rfl⟩
  all_goals
    refine bdec ?_
    simp only [decide_eq_true_iff, beq_iff_eq, bne_iff_ne, ne_eq, Bool.false_eq_true, false_iff, true_iff, known, uD, uA, uB] at *
    omega
theorem machine_fn (G : Gh) (op : Int) : Ct Tryd.prog 17 [.v (.int .i64 op)] [] G fun sv H' G' => sv = .v (.bool (decide (known op ∧ op ≠ 2))) ∧ H' = [] ∧ G' = G := by
  refine fn_of follows [] Tryd.func17 rfl rfl fun E hE => ?_
  repeat' ((fail_if_success with_reducible refine Stop.mk ?_); (conv => whnf); with_reducible first | refine br_t ?_ | refine br_f ?_ | refine br_nn ?_ | refine br_ns ?_ | refine br_not ?_ | refine br_d (fun h => ?_) (fun h => ?_) | refine br_e (fun h => ?_) (fun h => ?_) | refine br_n (fun h => ?_) (fun h => ?_) | refine drw (by kernel_rfl) ?_ | refine chk (by kernel_rfl) ?_ | refine stop ?_)
  all_goals refine Stop.mk ?_
  refine call_fn [] (known_fn _ op) rfl trivial (by decide) ?_
  rintro sv H' G' ⟨rfl, rfl, rfl⟩ -
  refine ⟨Nat.le_of_ble_eq_true rfl, ?_⟩
  repeat' ((fail_if_success with_reducible refine Stop.mk ?_); (conv => whnf); with_reducible first | refine br_t ?_ | refine br_f ?_ | refine br_nn ?_ | refine br_ns ?_ | refine br_not ?_ | refine br_d (fun h => ?_) (fun h => ?_) | refine br_e (fun h => ?_) (fun h => ?_) | refine br_n (fun h => ?_) (fun h => ?_) | refine drw (by kernel_rfl) ?_ | refine chk (by kernel_rfl) ?_ | refine stop ?_)
  all_goals refine Stop.mk ?_
  all_goals refine fin_all ⟨congrArg (fun b => SV.v (.bool b)) ?_, rfl, rfl⟩
  all_goals
    refine bdec ?_
    simp only [decide_eq_true_iff, beq_iff_eq, bne_iff_ne, ne_eq, Bool.false_eq_true, false_iff, true_iff, known, uD, uA, uB] at *
    omega
theorem usesD_fn (G : Gh) (op : Int) : Ct Tryd.prog 8 [.v (.int .i64 op)] [] G fun sv H' G' => sv = .v (.bool (decide (uD op))) ∧ H' = [] ∧ G' = G := by
  refine fn_of follows [] Tryd.func8 rfl rfl fun E hE => ?_
  repeat' ((fail_if_success with_reducible refine Stop.mk ?_); (conv => whnf); with_reducible first | refine br_t ?_ | refine br_f ?_ | refine br_nn ?_ | refine br_ns ?_ | refine br_not ?_ | refine br_d (fun h => ?_) (fun h => ?_) | refine br_e (fun h => ?_) (fun h => ?_) | refine br_n (fun h => ?_) (fun h => ?_) | refine drw (by kernel_rfl) ?_ | refine chk (by kernel_rfl) ?_ | refine stop ?_)
  all_goals refine Stop.mk ?_
  all_goals refine fin_all ⟨congrArg (fun b => SV.v (.bool b)) ?_, rfl, rfl⟩
  all_goals
    refine bdec ?_
    simp only [decide_eq_true_iff, beq_iff_eq, bne_iff_ne, ne_eq, Bool.false_eq_true, false_iff, true_iff, known, uD, uA, uB] at *
    omega
theorem usesA_fn (G : Gh) (op : Int) : Ct Tryd.prog 9 [.v (.int .i64 op)] [] G fun sv H' G' => sv = .v (.bool (decide (uA op))) ∧ H' = [] ∧ G' = G := by
  refine fn_of follows [] Tryd.func9 rfl rfl fun E hE => ?_
  repeat' ((fail_if_success with_reducible refine Stop.mk ?_); (conv => whnf); with_reducible first | refine br_t ?_ | refine br_f ?_ | refine br_nn ?_ | refine br_ns ?_ | refine br_not ?_ | refine br_d (fun h => ?_) (fun h => ?_) | refine br_e (fun h => ?_) (fun h => ?_) | refine br_n (fun h => ?_) (fun h => ?_) | refine drw (by kernel_rfl) ?_ | refine chk (by kernel_rfl) ?_ | refine stop ?_)
  all_goals refine Stop.mk ?_
  all_goals refine fin_all ⟨congrArg (fun b => SV.v (.bool b)) ?_, rfl, rfl⟩
  all_goals
    refine bdec ?_
    simp only [decide_eq_true_iff, beq_iff_eq, bne_iff_ne, ne_eq, Bool.false_eq_true, false_iff, true_iff, known, uD, uA, uB] at *
    omega
theorem usesB_fn (G : Gh) (op : Int) : Ct Tryd.prog 10 [.v (.int .i64 op)] [] G fun sv H' G' => sv = .v (.bool (decide (uB op))) ∧ H' = [] ∧ G' = G := by
  refine fn_of follows [] Tryd.func10 rfl rfl fun E hE => ?_
  repeat' ((fail_if_success with_reducible refine Stop.mk ?_); (conv => whnf); with_reducible first | refine br_t ?_ | refine br_f ?_ | refine br_nn ?_ | refine br_ns ?_ | refine br_not ?_ | refine br_d (fun h => ?_) (fun h => ?_) | refine br_e (fun h => ?_) (fun h => ?_) | refine br_n (fun h => ?_) (fun h => ?_) | refine drw (by kernel_rfl) ?_ | refine chk (by kernel_rfl) ?_ | refine stop ?_)
  all_goals refine Stop.mk ?_
  all_goals refine fin_all ⟨congrArg (fun b => SV.v (.bool b)) ?_, rfl, rfl⟩
  all_goals
    refine bdec ?_
    simp only [decide_eq_true_iff, beq_iff_eq, bne_iff_ne, ne_eq, Bool.false_eq_true, false_iff, true_iff, known, uD, uA, uB] at *
    omega

/-- The name of an opcode. -/
def nameL (op : Int) : List UInt8 := if known op then nmB.getD op.toNat [] else []
theorem nmV_get (k : Nat) (hk : k < 19) : nmV[k]? = some (strV (nmB.getD k [])) := by
  unfold nmV
  rw [List.getElem?_map, List.getD_eq_getElem?_getD, List.getElem?_eq_getElem (by show k < 19; exact hk)]
  rfl
theorem nameE_fn (G : Gh) (op : Int) (hN : Gat G ⟨0, 0, none⟩ nmV) : Ct Tryd.prog 12 [.v (.int .i64 op)] [] G fun sv H' G' => sv = .v (strV (nameL op)) ∧ H' = [] ∧ G' = G := by
  refine fn_of follows [] Tryd.func12 rfl rfl fun E hE => ?_
  repeat' ((fail_if_success with_reducible refine Stop.mk ?_); (conv => whnf); with_reducible first | refine br_t ?_ | refine br_f ?_ | refine br_nn ?_ | refine br_ns ?_ | refine br_not ?_ | refine br_d (fun h => ?_) (fun h => ?_) | refine br_e (fun h => ?_) (fun h => ?_) | refine br_n (fun h => ?_) (fun h => ?_) | refine drw (by kernel_rfl) ?_ | refine chk (by kernel_rfl) ?_ | refine stop ?_)
  all_goals refine Stop.mk ?_
  refine call_fn [] (known_fn _ op) rfl trivial (by decide) ?_
  rintro sv H' G' ⟨rfl, rfl, rfl⟩ -
  refine ⟨Nat.le_of_ble_eq_true rfl, ?_⟩
  repeat' ((fail_if_success with_reducible refine Stop.mk ?_); (conv => whnf); with_reducible first | refine br_t ?_ | refine br_f ?_ | refine br_nn ?_ | refine br_ns ?_ | refine br_not ?_ | refine br_d (fun h => ?_) (fun h => ?_) | refine br_e (fun h => ?_) (fun h => ?_) | refine br_n (fun h => ?_) (fun h => ?_) | refine drw (by kernel_rfl) ?_ | refine chk (by kernel_rfl) ?_ | refine stop ?_)
  all_goals refine Stop.mk ?_
  · have hk : known op := by assumption
    have hk2 : 1 ≤ op ∧ op ≤ 18 := hk
    refine ⟨⟨by omega, by omega⟩, ?_⟩
    repeat' ((fail_if_success with_reducible refine Stop.mk ?_); (conv => whnf); with_reducible first | refine br_t ?_ | refine br_f ?_ | refine br_nn ?_ | refine br_ns ?_ | refine br_not ?_ | refine br_d (fun h => ?_) (fun h => ?_) | refine br_e (fun h => ?_) (fun h => ?_) | refine br_n (fun h => ?_) (fun h => ?_) | refine drw (by kernel_rfl) ?_ | refine chk (by kernel_rfl) ?_ | refine stop ?_)
    all_goals refine Stop.mk ?_
    have hx := nmV_get op.toNat (by omega)
    refine ⟨_, by have := hN op.toNat _ hx; simpa using this, ?_⟩
    repeat' ((fail_if_success with_reducible refine Stop.mk ?_); (conv => whnf); with_reducible first | refine br_t ?_ | refine br_f ?_ | refine br_nn ?_ | refine br_ns ?_ | refine br_not ?_ | refine br_d (fun h => ?_) (fun h => ?_) | refine br_e (fun h => ?_) (fun h => ?_) | refine br_n (fun h => ?_) (fun h => ?_) | refine drw (by kernel_rfl) ?_ | refine chk (by kernel_rfl) ?_ | refine stop ?_)
    all_goals refine Stop.mk ?_
    exact fin_id hE 0 rfl rfl rfl rfl ⟨by unfold nameL; rw [if_pos hk, List.getD_eq_getElem?_getD], rfl, rfl⟩
  · exact fin_id hE 0 rfl rfl rfl rfl ⟨by unfold nameL; rw [if_neg (by assumption)]; rfl, rfl, rfl⟩
theorem rname_fn (G : Gh) (op : Int) : Ct Tryd.prog 13 [.v (.int .i64 op)] [] G fun sv H' G' => sv = .v (strV (nameL op)) ∧ H' = [] := by
  refine fn_of follows [] Tryd.func13 rfl rfl fun E hE => ?_
  repeat' ((fail_if_success with_reducible refine Stop.mk ?_); (conv => whnf); with_reducible first | refine br_t ?_ | refine br_f ?_ | refine br_nn ?_ | refine br_ns ?_ | refine br_not ?_ | refine br_d (fun h => ?_) (fun h => ?_) | refine br_e (fun h => ?_) (fun h => ?_) | refine br_n (fun h => ?_) (fun h => ?_) | refine drw (by kernel_rfl) ?_ | refine chk (by kernel_rfl) ?_ | refine stop ?_)
  all_goals refine Stop.mk ?_
  all_goals try
    have hk : ¬ known op := by unfold known; omega
    exact fin_id hE 0 rfl rfl rfl rfl ⟨by unfold nameL; rw [if_neg hk]; rfl, rfl⟩
  have hk : known op := by unfold known; omega
  have hk2 : 1 ≤ op ∧ op ≤ 18 := hk
  refine ⟨⟨by omega, by omega⟩, ?_⟩
  repeat' ((fail_if_success with_reducible refine Stop.mk ?_); (conv => whnf); with_reducible first | refine br_t ?_ | refine br_f ?_ | refine br_nn ?_ | refine br_ns ?_ | refine br_not ?_ | refine br_d (fun h => ?_) (fun h => ?_) | refine br_e (fun h => ?_) (fun h => ?_) | refine br_n (fun h => ?_) (fun h => ?_) | refine drw (by kernel_rfl) ?_ | refine chk (by kernel_rfl) ?_ | refine stop ?_)
  all_goals refine Stop.mk ?_
  have hx := nmV_get op.toNat (by omega)
  refine ⟨_, by rw [Nat.mul_one]; exact hx, ?_⟩
  repeat' ((fail_if_success with_reducible refine Stop.mk ?_); (conv => whnf); with_reducible first | refine br_t ?_ | refine br_f ?_ | refine br_nn ?_ | refine br_ns ?_ | refine br_not ?_ | refine br_d (fun h => ?_) (fun h => ?_) | refine br_e (fun h => ?_) (fun h => ?_) | refine br_n (fun h => ?_) (fun h => ?_) | refine drw (by kernel_rfl) ?_ | refine chk (by kernel_rfl) ?_ | refine stop ?_)
  all_goals refine Stop.mk ?_
  exact fin_id hE 0 rfl rfl rfl rfl ⟨by unfold nameL; rw [if_pos hk], rfl⟩
theorem findL_nm (k : Nat) (h1 : 1 ≤ k) (h2 : k ≤ 18) : findL (nmB.getD k []) = k := by
  have h : ∀ k : Fin 19, 1 ≤ k.val → findL (nmB.getD k.val []) = (k.val : Int) := by decide +kernel
  exact h ⟨k, by omega⟩ h1
set_option maxHeartbeats 8000000 in
theorem rfind_fn (G : Gh) (b : ByteArray) : Ct Tryd.prog 15 [.v (.string b)] [] G fun sv H' G' => sv = .v (.int .i64 (findL b.toList)) ∧ H' = [] := by
  refine fn_of follows [] Tryd.func15 rfl rfl fun E hE => ?_
  repeat' ((fail_if_success with_reducible refine Stop.mk ?_); (conv => whnf); with_reducible first | refine br_t ?_ | refine br_f ?_ | refine br_nn ?_ | refine br_ns ?_ | refine br_not ?_ | refine br_d (fun h => ?_) (fun h => ?_) | refine br_e (fun h => ?_) (fun h => ?_) | refine br_n (fun h => ?_) (fun h => ?_) | refine drw (by kernel_rfl) ?_ | refine chk (by kernel_rfl) ?_ | refine stop ?_)
  all_goals refine Stop.mk ?_
  refine loop_vars follows [] (α := Nat × Gh) (fun x => [(3, .v (.int .i64 x.1))]) (fun x => []) (fun x => x.2) (fun x => 1 ≤ x.1 ∧ x.1 ≤ 19 ∧ ∀ j, 1 ≤ j → j < x.1 → nmB.getD j [] ≠ b.toList) (fun x => 19 - x.1) (1, G)
    ⟨Nat.le_refl _, by dsimp only; omega, fun j h1 h2 => by dsimp only at h2; omega⟩ rfl rfl ?_ ?_
  ·
    refine ⟨?_⟩
    (conv => whnf)
    (repeat' (first | exact trivial | exact .inl rfl | exact .inr rfl | refine And.intro ?_ ?_))
  rintro ⟨k, Gk⟩ ⟨h1, h2, hall⟩
  dsimp only at h1 h2 hall ⊢
  have hw2 : IntKind.i64.wrap ((k : Int) + 1) = ((k + 1 : Nat) : Int) := by rw [i64_in (by omega) (by omega)]; simp
  repeat' ((fail_if_success with_reducible refine Stop.mk ?_); (conv => whnf); with_reducible first | refine br_t ?_ | refine br_f ?_ | refine br_nn ?_ | refine br_ns ?_ | refine br_not ?_ | refine br_d (fun h => ?_) (fun h => ?_) | refine br_e (fun h => ?_) (fun h => ?_) | refine br_n (fun h => ?_) (fun h => ?_) | refine drw (by kernel_rfl) ?_ | refine chk (by kernel_rfl) ?_ | refine stop ?_)
  all_goals refine Stop.mk ?_
  · have hk : k ≤ 18 := by omega
    refine call_fn [] (rname_fn _ k) rfl trivial (by decide) ?_
    rintro sv H' G' ⟨rfl, rfl⟩ -
    refine ⟨Nat.le_of_ble_eq_true rfl, ?_⟩
    have hn : nameL k = nmB.getD k [] := by unfold nameL; rw [if_pos (by unfold known; omega), Int.toNat_natCast]
    rw [hn]
    repeat' ((fail_if_success with_reducible refine Stop.mk ?_); (conv => whnf); with_reducible first | refine br_t ?_ | refine br_f ?_ | refine br_nn ?_ | refine br_ns ?_ | refine br_not ?_ | refine br_d (fun h => ?_) (fun h => ?_) | refine br_e (fun h => ?_) (fun h => ?_) | refine br_n (fun h => ?_) (fun h => ?_) | refine br_b (fun h => ?_) (fun h => ?_) | refine drw (by kernel_rfl) ?_ | refine chk (by kernel_rfl) ?_ | refine stop ?_)
    all_goals refine Stop.mk ?_
    · have e1 := eq_of_beq h
      rw [ByteArray.toList_mk] at e1
      refine fin_id hE 0 rfl rfl rfl rfl ⟨congrArg (fun e => SV.v (.int .i64 e)) ?_, rfl⟩
      rw [← e1]
      exact (findL_nm k h1 hk).symm
    · have e1 := ne_of_beq_false h
      rw [ByteArray.toList_mk] at e1
      rw [hw2]
      refine tell_here ⟨(k + 1, _), ⟨by show 1 ≤ k + 1; omega, by show k + 1 ≤ 19; omega, fun j h3 h4 => ?_⟩, by show 19 - (k + 1) < 19 - k; omega, rfl, rfl, ?_⟩
      · rcases Nat.lt_or_ge j k with h5 | h5
        · exact hall j h3 h5
        · have : j = k := by dsimp only at h4; omega
          subst this; exact e1
      ·
        refine ⟨?_⟩
        (conv => whnf)
        (repeat' (first | exact trivial | exact .inl rfl | exact .inr rfl | refine And.intro ?_ ?_))
  · have hk : k = 19 := by omega
    subst hk
    refine fin_id hE 0 rfl rfl rfl rfl ⟨congrArg (fun e => SV.v (.int .i64 e)) ?_, rfl⟩
    symm
    refine findL_none _ fun x hx he => ?_
    obtain ⟨j, hj⟩ := List.getElem?_of_mem hx
    rw [List.getElem?_drop] at hj
    have hj2 := (List.getElem?_eq_some_iff.1 hj).1
    have hj3 : 1 + j < 19 := hj2
    refine hall (1 + j) (by omega) hj3 ?_
    rw [List.getD_eq_getElem?_getD, hj]
    exact he
end Go.Proofs.YtlckmihmegnajaaDoor.Cu
