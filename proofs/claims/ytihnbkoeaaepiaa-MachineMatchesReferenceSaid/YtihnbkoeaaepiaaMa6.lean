/- Machines: the law's fixed results. -/
import Derived.Test.YtihnbkoeaaepiaaMa5
import Derived.Test.YtihnbkoeaaepiaaSXg
namespace Go.Proofs.Ytihnbkoeaaepiaa.Cu
open Go Go.SX Go.Proofs.Ytihnbkoeaaepiaa.VT
set_option maxRecDepth 100000
set_option linter.unusedVariables false
set_option linter.unusedSimpArgs false
def mv08 : Mac := ⟨18, 0, 0, 0, 0, 0, 1⟩
def cs08 : List Value := i64s mv08.l
theorem flat_rep {α : Type} (l : List α) : ∀ n : Nat, (List.replicate (n + 1) l).flatten = (List.replicate n l).flatten ++ l
  | 0 => by simp
  | n + 1 => by
    have := flat_rep l n
    have h2 : l ++ (List.replicate n l).flatten = (List.replicate n l).flatten ++ l := by rw [← this, List.replicate_succ, List.flatten_cons]
    rw [List.replicate_succ, List.flatten_cons, this, ← List.append_assoc, h2]
theorem rep08_len (n : Nat) : ((List.replicate n cs08).flatten).length = n * 7 := by simp [cs08, i64s, Mac.l, mv08]
theorem mv08_ok : mv08.ok := by unfold Mac.ok in64 mv08; decide
theorem all08 (G : Gh) : ∀ n : Nat, All2 (kMac.R G) (List.replicate n mv08) (List.replicate n cs08)
  | 0 => trivial
  | n + 1 => ⟨⟨rfl, mv08_ok⟩, all08 G n⟩
def f08 (n : Nat) : MFn := ⟨0, 1, 1, [⟨List.replicate n mv08, ⟨3, 0, 0, 0⟩⟩]⟩
def z08 : MFn := ⟨0, 0, 0, []⟩
theorem longest08 (n : Nat) : Longest (List.replicate n mv08) n := by
  refine ⟨by omega, fun m => ⟨fun h => ⟨0, by rw [List.length_replicate]; omega, fun j x _ h1 hx => ?_⟩, ?_⟩⟩
  · rw [List.getElem?_replicate] at hx
    split at hx
    · simp at hx; subst hx; rfl
    · simp at hx
  · rintro ⟨i, hi⟩
    have := hi.1
    rw [List.length_replicate] at this
    omega
theorem blk08 {G : Gh} {A B : Option Addr} {c d n sz : Nat} (hsz : sz = 5) (hS : kMac.S G A c (List.replicate n mv08)) (h : Sl G B 1 d sz [.slice A n c, .int .i64 3, .int .i64 0, .int .i64 0, .int .i64 0]) : kMBlk.S G B d (f08 n).blocks := by
  refine Kd.S.of h rfl hsz ⟨[[.slice A n c, .int .i64 3, .int .i64 0, .int .i64 0, .int .i64 0]], ⟨⟨A, c, ?_, hS, ?_⟩, trivial⟩, rfl⟩
  · show _ = Value.slice A (List.replicate n mv08).length c :: _
    rw [List.length_replicate]; rfl
  · unfold Trm.ok in64; dsimp only; decide
theorem splice08 {xs : List Value} {k : Nat} (hx : xs.take (k * 7) = (List.replicate k cs08).flatten) (hl : xs.length = 455) (hk : k < 65) :
    (xs.take (k * 7) ++ cs08 ++ xs.drop (k * 7 + 7)).length = 455 ∧ (xs.take (k * 7) ++ cs08 ++ xs.drop (k * 7 + 7)).take ((k + 1) * 7) = (List.replicate (k + 1) cs08).flatten := by
  have hc : cs08.length = 7 := rfl
  have h1 : (xs.take (k * 7)).length = k * 7 := by rw [List.length_take]; omega
  constructor
  · simp only [List.length_append, List.length_drop, h1, hc]; omega
  · rw [List.take_append, List.take_of_length_le (by rw [List.length_append, h1, hc]; omega), hx, flat_rep]
    rw [show (k + 1) * 7 - (List.flatten (List.replicate k cs08) ++ cs08).length = 0 by rw [List.length_append, rep08_len, hc]; omega]
    simp
set_option maxHeartbeats 8000000 in
theorem awake08_fn (G : Gh) : Ct Try.prog 32 [] [] G fun sv H' G' => sv = .v (.bool true) ∧ H' = [] := by
  refine fn_of follows [] Try.func32 rfl rfl fun E hE => ?_
  repeat' ((fail_if_success with_reducible refine Stop.mk ?_); (conv => whnf); with_reducible first | refine br_t ?_ | refine br_f ?_ | refine br_nn ?_ | refine br_ns ?_ | refine br_not ?_ | refine br_d (fun h => ?_) (fun h => ?_) | refine br_e (fun h => ?_) (fun h => ?_) | refine br_n (fun h => ?_) (fun h => ?_) | refine drw (by kernel_rfl) ?_ | refine chk (by kernel_rfl) ?_ | refine stop ?_)
  all_goals refine Stop.mk ?_
  refine ⟨rfl, ⟨by decide, by decide +kernel⟩, ?_⟩
  repeat' ((fail_if_success with_reducible refine Stop.mk ?_); (conv => whnf); with_reducible first | refine br_t ?_ | refine br_f ?_ | refine br_nn ?_ | refine br_ns ?_ | refine br_not ?_ | refine br_d (fun h => ?_) (fun h => ?_) | refine br_e (fun h => ?_) (fun h => ?_) | refine br_n (fun h => ?_) (fun h => ?_) | refine drw (by kernel_rfl) ?_ | refine chk (by kernel_rfl) ?_ | refine stop ?_)
  all_goals refine Stop.mk ?_
  refine loop_out 0 (β := Option Addr × Nat × Gh) (fun y => [(2, .v (.slice y.1 65 y.2.1)), (7, .dead)]) (fun _ => [.cells 67 [.v (.int .i64 18), .v (.int .i64 0), .v (.int .i64 0), .v (.int .i64 0), .v (.int .i64 0), .v (.int .i64 0), .v (.int .i64 1)], .gone]) (fun y => y.2.2) (fun y => kMac.S y.2.2 y.1 y.2.1 (List.replicate 65 mv08)) ?_ (fun K0 hK0 hKx => ?_)
  rotate_left
  · refine loop_vars follows [] (α := Nat × List Value) (fun x => [(2, .s 1), (3, .v (.int .i64 x.1))]) (fun x => [.cells 67 [.v (.int .i64 18), .v (.int .i64 0), .v (.int .i64 0), .v (.int .i64 0), .v (.int .i64 0), .v (.int .i64 0), .v (.int .i64 1)], .row 67 7 65 x.2]) (fun _ => G)
      (fun x => x.1 ≤ 65 ∧ x.2.length = 455 ∧ x.2.take (x.1 * 7) = (List.replicate x.1 cs08).flatten) (fun x => 65 - x.1) (0, _)
      ⟨Nat.zero_le _, by decide +kernel, rfl⟩ rfl rfl ?_ ?_
    ·
      refine ⟨?_⟩
      (conv => whnf)
      (repeat' (first | exact trivial | exact .inl rfl | exact .inr rfl | refine And.intro ?_ ?_))
    intro x hx
    have hk := hx.1
    have hl := hx.2.1
    have ht := hx.2.2
    obtain ⟨k, xs⟩ := x
    dsimp only at hk hl ht
    have hw2 : IntKind.i64.wrap ((k : Int) + 1) = ((k + 1 : Nat) : Int) := by rw [i64_in (by omega) (by omega)]; simp
    repeat' ((fail_if_success with_reducible refine Stop.mk ?_); (conv => whnf); with_reducible first | refine br_t ?_ | refine br_f ?_ | refine br_nn ?_ | refine br_ns ?_ | refine br_not ?_ | refine br_d (fun h => ?_) (fun h => ?_) | refine br_e (fun h => ?_) (fun h => ?_) | refine br_n (fun h => ?_) (fun h => ?_) | refine drw (by kernel_rfl) ?_ | refine chk (by kernel_rfl) ?_ | refine stop ?_)
    all_goals refine Stop.mk ?_
    · have hk65 : k < 65 := by have h' : (k : Int) < 65 := by assumption
                               omega
      refine ⟨⟨by dsimp only; omega, by dsimp only; omega⟩, ?_⟩
      repeat' ((fail_if_success with_reducible refine Stop.mk ?_); (conv => whnf); with_reducible first | refine br_t ?_ | refine br_f ?_ | refine br_nn ?_ | refine br_ns ?_ | refine br_not ?_ | refine br_d (fun h => ?_) (fun h => ?_) | refine br_e (fun h => ?_) (fun h => ?_) | refine br_n (fun h => ?_) (fun h => ?_) | refine drw (by kernel_rfl) ?_ | refine chk (by kernel_rfl) ?_ | refine stop ?_)
      all_goals refine Stop.mk ?_
      refine ⟨by show k * 7 + 7 ≤ xs.length; omega, ?_⟩
      repeat' ((fail_if_success with_reducible refine Stop.mk ?_); (conv => whnf); with_reducible first | refine br_t ?_ | refine br_f ?_ | refine br_nn ?_ | refine br_ns ?_ | refine br_not ?_ | refine br_d (fun h => ?_) (fun h => ?_) | refine br_e (fun h => ?_) (fun h => ?_) | refine br_n (fun h => ?_) (fun h => ?_) | refine drw (by kernel_rfl) ?_ | refine chk (by kernel_rfl) ?_ | refine stop ?_)
      all_goals refine Stop.mk ?_
      rw [show IntKind.i64.wrap (((k, xs).1 : Int) + 1) = ((k + 1 : Nat) : Int) from hw2]
      have hsp := splice08 ht hl hk65
      refine tell_here ⟨(k + 1, xs.take (k * 7) ++ cs08 ++ xs.drop (k * 7 + 7)), ⟨by show k + 1 ≤ 65; omega, hsp.1, hsp.2⟩, by show 65 - (k + 1) < 65 - k; omega, rfl, rfl, ?_⟩
      refine ⟨?_⟩
      (conv => whnf)
      (repeat' (first | exact trivial | exact .inl rfl | exact .inr rfl | refine And.intro ?_ ?_))
    · have hk65 : k = 65 := by have h' : ¬ (k : Int) < 65 := by assumption
                               omega
      subst hk65
      refine Stop.mk (hKx _ ?_)
      have hxs : xs = (List.replicate 65 cs08).flatten := by rw [← ht, List.take_of_length_le (by omega)]
      subst hxs
      refine tell_fz 1 rfl (by decide +kernel) fun A c G' hg hs => ?_
      (conv => whnf)
      refine tell_here ⟨(A, c, G'), Kd.S.of hs rfl rfl ⟨_, all08 _ 65, rfl⟩, rfl, rfl, ?_⟩
      refine ⟨?_⟩
      (conv => whnf)
      (repeat' (first | exact trivial | exact .inl rfl | exact .inr rfl | refine And.intro ?_ ?_))
  · intro y hS
    obtain ⟨A, c, G1⟩ := y
    dsimp only at hS
    (conv => whnf)
    repeat' ((fail_if_success with_reducible refine Stop.mk ?_); (conv => whnf); with_reducible first | refine br_t ?_ | refine br_f ?_ | refine br_nn ?_ | refine br_ns ?_ | refine br_not ?_ | refine br_d (fun h => ?_) (fun h => ?_) | refine br_e (fun h => ?_) (fun h => ?_) | refine br_n (fun h => ?_) (fun h => ?_) | refine drw (by kernel_rfl) ?_ | refine chk (by kernel_rfl) ?_ | refine stop ?_)
    all_goals refine Stop.mk ?_
    have hcap := hS.cap
    rw [List.length_replicate] at hcap
    refine ⟨⟨by decide, by dsimp only; omega⟩, fun A' hA' => ?_⟩
    obtain rfl : A' = A := by
      rw [hA']; split
      · rfl
      · cases A <;> simp [Addr.add]
    clear hA'
    have hT := hS.take_ (k := 64) (by simp)
    rw [show (List.replicate 65 mv08).take 64 = List.replicate 64 mv08 by decide +kernel] at hT
    repeat' ((fail_if_success with_reducible refine Stop.mk ?_); (conv => whnf); with_reducible first | refine br_t ?_ | refine br_f ?_ | refine br_nn ?_ | refine br_ns ?_ | refine br_not ?_ | refine br_d (fun h => ?_) (fun h => ?_) | refine br_e (fun h => ?_) (fun h => ?_) | refine br_n (fun h => ?_) (fun h => ?_) | refine drw (by kernel_rfl) ?_ | refine chk (by kernel_rfl) ?_ | refine stop ?_)
    all_goals refine Stop.mk ?_
    try dsimp only at hS hT
    refine call_fz 2 rfl (by simp [Value.oneCell']) (enters_of Try.func38 rfl rfl) fun Af cf Gf hgf hsf => ?_
    (conv => whnf)
    replace hS := hS.to hgf
    replace hT := hT.to hgf
    have hF := blk08 (n := 64) rfl hT hsf
    clear hgf hsf
    refine call_fz 4 rfl (by simp [Value.oneCell']) (enters_of Try.func38 rfl rfl) fun Ag cg Gg hgg hsg => ?_
    (conv => whnf)
    replace hS := hS.to hgg
    replace hT := hT.to hgg
    replace hF := hF.to hgg
    have hG := blk08 (n := 65) rfl hS hsg
    clear hgg hsg
    refine call_fn [] (macInstr_fn _ mv08 1 1 mv08_ok) rfl trivial (by decide) ?_
    rintro sv H' G' ⟨rfl, rfl⟩ hg
    refine ⟨Nat.le_of_ble_eq_true rfl, ?_⟩
    replace hS := hS.to hg
    replace hF := hF.to hg
    replace hG := hG.to hg
    clear hg
    rw [show eMac 1 1 mv08 = 0 by decide +kernel]
    repeat' ((fail_if_success with_reducible refine Stop.mk ?_); (conv => whnf); with_reducible first | refine br_t ?_ | refine br_f ?_ | refine br_nn ?_ | refine br_ns ?_ | refine br_not ?_ | refine br_d (fun h => ?_) (fun h => ?_) | refine br_e (fun h => ?_) (fun h => ?_) | refine br_n (fun h => ?_) (fun h => ?_) | refine drw (by kernel_rfl) ?_ | refine chk (by kernel_rfl) ?_ | refine stop ?_)
    all_goals refine Stop.mk ?_
    all_goals try (exfalso; first | exact h rfl | exact h (by decide))
    refine call_fn [] (macInstr_fn _ ⟨18, 0, 0, 0, 0, 3, 1⟩ 9 9 (by unfold Mac.ok in64; decide)) rfl trivial (by decide) ?_
    rintro sv H' G' ⟨rfl, rfl⟩ hg
    refine ⟨Nat.le_of_ble_eq_true rfl, ?_⟩
    replace hS := hS.to hg
    replace hF := hF.to hg
    replace hG := hG.to hg
    clear hg
    rw [show eMac 9 9 ⟨18, 0, 0, 0, 0, 3, 1⟩ = 10 by decide +kernel]
    repeat' ((fail_if_success with_reducible refine Stop.mk ?_); (conv => whnf); with_reducible first | refine br_t ?_ | refine br_f ?_ | refine br_nn ?_ | refine br_ns ?_ | refine br_not ?_ | refine br_d (fun h => ?_) (fun h => ?_) | refine br_e (fun h => ?_) (fun h => ?_) | refine br_n (fun h => ?_) (fun h => ?_) | refine drw (by kernel_rfl) ?_ | refine chk (by kernel_rfl) ?_ | refine stop ?_)
    all_goals refine Stop.mk ?_
    all_goals try (exfalso; first | exact h rfl | exact h (by decide))
    refine call_fn [] (macInstr_fn _ ⟨2, 0, 0, 0, 0, 0, 0⟩ 9 9 (by unfold Mac.ok in64; decide)) rfl trivial (by decide) ?_
    rintro sv H' G' ⟨rfl, rfl⟩ hg
    refine ⟨Nat.le_of_ble_eq_true rfl, ?_⟩
    replace hS := hS.to hg
    replace hF := hF.to hg
    replace hG := hG.to hg
    clear hg
    rw [show eMac 9 9 ⟨2, 0, 0, 0, 0, 0, 0⟩ = 8 by decide +kernel]
    repeat' ((fail_if_success with_reducible refine Stop.mk ?_); (conv => whnf); with_reducible first | refine br_t ?_ | refine br_f ?_ | refine br_nn ?_ | refine br_ns ?_ | refine br_not ?_ | refine br_d (fun h => ?_) (fun h => ?_) | refine br_e (fun h => ?_) (fun h => ?_) | refine br_n (fun h => ?_) (fun h => ?_) | refine drw (by kernel_rfl) ?_ | refine chk (by kernel_rfl) ?_ | refine stop ?_)
    all_goals refine Stop.mk ?_
    all_goals try (exfalso; first | exact h rfl | exact h (by decide))
    refine call_fn [] (macCheck_fn _ Af cf (f08 64) hF (by decide) (by decide +kernel)) rfl trivial (by decide) ?_
    rintro sv H' G' ⟨rfl, rfl⟩ hg
    refine ⟨Nat.le_of_ble_eq_true rfl, ?_⟩
    replace hS := hS.to hg
    replace hG := hG.to hg
    clear hg
    rw [show eMFn (f08 64) = 0 by decide +kernel]
    repeat' ((fail_if_success with_reducible refine Stop.mk ?_); (conv => whnf); with_reducible first | refine br_t ?_ | refine br_f ?_ | refine br_nn ?_ | refine br_ns ?_ | refine br_not ?_ | refine br_d (fun h => ?_) (fun h => ?_) | refine br_e (fun h => ?_) (fun h => ?_) | refine br_n (fun h => ?_) (fun h => ?_) | refine drw (by kernel_rfl) ?_ | refine chk (by kernel_rfl) ?_ | refine stop ?_)
    all_goals refine Stop.mk ?_
    all_goals try (exfalso; first | exact h rfl | exact h (by decide))
    refine call_fn [] (macCheck_fn _ Ag cg (f08 65) hG (by decide) (by decide +kernel)) rfl trivial (by decide) ?_
    rintro sv H' G' ⟨rfl, rfl⟩ hg
    refine ⟨Nat.le_of_ble_eq_true rfl, ?_⟩
    replace hS := hS.to hg
    replace hG := hG.to hg
    clear hg
    rw [show eMFn (f08 65) = 15 by decide +kernel]
    repeat' ((fail_if_success with_reducible refine Stop.mk ?_); (conv => whnf); with_reducible first | refine br_t ?_ | refine br_f ?_ | refine br_nn ?_ | refine br_ns ?_ | refine br_not ?_ | refine br_d (fun h => ?_) (fun h => ?_) | refine br_e (fun h => ?_) (fun h => ?_) | refine br_n (fun h => ?_) (fun h => ?_) | refine drw (by kernel_rfl) ?_ | refine chk (by kernel_rfl) ?_ | refine stop ?_)
    all_goals refine Stop.mk ?_
    all_goals try (exfalso; first | exact h rfl | exact h (by decide))
    have hmv := macMoves_fn G' A' c (List.replicate 65 mv08) hS
    rw [List.length_replicate] at hmv
    refine call_fn [] hmv rfl trivial (by decide) ?_
    rintro sv H' G' ⟨r, rfl, hr, rfl, rfl⟩ -
    obtain rfl := hr.uniq (longest08 65)
    refine ⟨Nat.le_of_ble_eq_true rfl, ?_⟩
    repeat' ((fail_if_success with_reducible refine Stop.mk ?_); (conv => whnf); with_reducible first | refine br_t ?_ | refine br_f ?_ | refine br_nn ?_ | refine br_ns ?_ | refine br_not ?_ | refine br_d (fun h => ?_) (fun h => ?_) | refine br_e (fun h => ?_) (fun h => ?_) | refine br_n (fun h => ?_) (fun h => ?_) | refine drw (by kernel_rfl) ?_ | refine chk (by kernel_rfl) ?_ | refine stop ?_)
    all_goals refine Stop.mk ?_
    all_goals try (exfalso; first | exact h rfl | exact h (by decide))
    refine call_fn [] (macCode_fn _ Ag cg (f08 65) hG (by decide) (by decide +kernel)) rfl trivial (by decide) ?_
    rintro sv H' G' ⟨rfl, rfl, rfl⟩ -
    refine ⟨Nat.le_of_ble_eq_true rfl, ?_⟩
    rw [show ((totMB (f08 65).blocks : Nat) : Int) = 65 by decide +kernel]
    repeat' ((fail_if_success with_reducible refine Stop.mk ?_); (conv => whnf); with_reducible first | refine br_t ?_ | refine br_f ?_ | refine br_nn ?_ | refine br_ns ?_ | refine br_not ?_ | refine br_d (fun h => ?_) (fun h => ?_) | refine br_e (fun h => ?_) (fun h => ?_) | refine br_n (fun h => ?_) (fun h => ?_) | refine drw (by kernel_rfl) ?_ | refine chk (by kernel_rfl) ?_ | refine stop ?_)
    all_goals refine Stop.mk ?_
    all_goals try (exfalso; first | exact h rfl | exact h (by decide))
    refine call_fn [] (macCheck_fn _ none 0 z08 (Kd.S.none_ _ _) (by decide) (by decide +kernel)) rfl trivial (by decide) ?_
    rintro sv H' G' ⟨rfl, rfl⟩ -
    refine ⟨Nat.le_of_ble_eq_true rfl, ?_⟩
    rw [show eMFn z08 = 14 by decide +kernel]
    repeat' ((fail_if_success with_reducible refine Stop.mk ?_); (conv => whnf); with_reducible first | refine br_t ?_ | refine br_f ?_ | refine br_nn ?_ | refine br_ns ?_ | refine br_not ?_ | refine br_d (fun h => ?_) (fun h => ?_) | refine br_e (fun h => ?_) (fun h => ?_) | refine br_n (fun h => ?_) (fun h => ?_) | refine drw (by kernel_rfl) ?_ | refine chk (by kernel_rfl) ?_ | refine stop ?_)
    all_goals refine Stop.mk ?_
    exact fin_id hE 0 rfl rfl rfl rfl ⟨rfl, rfl⟩
end Go.Proofs.Ytihnbkoeaaepiaa.Cu
