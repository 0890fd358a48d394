/- The law FunccodeKeeps. -/
import Derived.Test.YtchebkpcgglllaaKp2
import Derived.Test.YtchebkpcgglllaaFuw
import Derived.Test.YtchebkpcgglllaaFu9
import Derived.Test.YtchebkpcgglllaaFu3
import Derived.Test.YtchebkpcgglllaaFuG
namespace Go.Proofs.Ytchebkpcgglllaa.Cu
open Go Go.SX Go.Proofs.Ytchebkpcgglllaa.VT
set_option maxRecDepth 100000
set_option linter.unusedVariables false
set_option linter.unusedSimpArgs false
set_option maxHeartbeats 8000000 in
theorem fkeeps_fn (G : Gh) (A : Option Addr) (c : Nat) (f : Fn) (hf : kBlk.S G A c f.blocks) :
    Ct Try.prog 4 [fnS A c f] [] G fun sv H' G' => sv = .v (.bool true) ∧ H' = [] := by
  have lF := wFn_le f
  have lF2 := wBs_le f.blocks
  have hf0 := hf
  refine fn_ofG follows [(14, (.cons 0 [] (.cons 1 [] (.cons 2 [] (.cons 4 [] (.cons 3 [] (.cons 5 [4] (.cons 6 [4] (.cons 7 [] (.cons 8 [] .nil))))))))))] Try.func4 rfl rfl fun E hE hE0 => ?_
  unfold fnS
  repeat' ((fail_if_success with_reducible refine Stop.mk ?_); (conv => whnf); with_reducible first | refine br_t ?_ | refine br_f ?_ | refine br_nn ?_ | refine br_ns ?_ | refine br_not ?_ | refine br_d (fun h => ?_) (fun h => ?_) | refine br_e (fun h => ?_) (fun h => ?_) | refine br_n (fun h => ?_) (fun h => ?_) | refine drw (by kernel_rfl) ?_ | refine chk (by kernel_rfl) ?_ | refine stop ?_)
  all_goals refine Stop.mk ?_
  refine call_fn [] (awake18_fn _) rfl trivial (by decide) ?_
  rintro sv H' G1 ⟨rfl, rfl⟩ hg1
  refine ⟨Nat.le_of_ble_eq_true rfl, ?_⟩
  replace hf := hf.to hg1
  repeat' ((fail_if_success with_reducible refine Stop.mk ?_); (conv => whnf); with_reducible first | refine br_t ?_ | refine br_f ?_ | refine br_nn ?_ | refine br_ns ?_ | refine br_not ?_ | refine br_d (fun h => ?_) (fun h => ?_) | refine br_e (fun h => ?_) (fun h => ?_) | refine br_n (fun h => ?_) (fun h => ?_) | refine drw (by kernel_rfl) ?_ | refine chk (by kernel_rfl) ?_ | refine stop ?_)
  all_goals refine Stop.mk ?_
  refine call_fn [] (few7_fn _ A c f hf) rfl trivial (by decide) ?_
  rintro sv H' G' ⟨⟨r, rfl, hfew⟩, rfl, rfl⟩ -
  refine ⟨Nat.le_of_ble_eq_true rfl, ?_⟩
  cases r
  ·
    repeat' ((fail_if_success with_reducible refine Stop.mk ?_); (conv => whnf); with_reducible first | refine br_t ?_ | refine br_f ?_ | refine br_nn ?_ | refine br_ns ?_ | refine br_not ?_ | refine br_d (fun h => ?_) (fun h => ?_) | refine br_e (fun h => ?_) (fun h => ?_) | refine br_n (fun h => ?_) (fun h => ?_) | refine drw (by kernel_rfl) ?_ | refine chk (by kernel_rfl) ?_ | refine stop ?_)
    all_goals refine Stop.mk ?_
    refine call_fn [] (awake18_fn _) rfl trivial (by decide) ?_
    rintro sv H' G' ⟨rfl, rfl⟩ -
    refine ⟨Nat.le_of_ble_eq_true rfl, ?_⟩
    repeat' ((fail_if_success with_reducible refine Stop.mk ?_); (conv => whnf); with_reducible first | refine br_t ?_ | refine br_f ?_ | refine br_nn ?_ | refine br_ns ?_ | refine br_not ?_ | refine br_d (fun h => ?_) (fun h => ?_) | refine br_e (fun h => ?_) (fun h => ?_) | refine br_n (fun h => ?_) (fun h => ?_) | refine drw (by kernel_rfl) ?_ | refine chk (by kernel_rfl) ?_ | refine stop ?_)
    all_goals refine Stop.mk ?_
    exact fin_id hE 0 rfl rfl rfl rfl ⟨rfl, rfl⟩
  obtain ⟨hf1, hf2, hf3⟩ := hfew rfl
  clear hfew
  repeat' ((fail_if_success with_reducible refine Stop.mk ?_); (conv => whnf); with_reducible first | refine br_t ?_ | refine br_f ?_ | refine br_nn ?_ | refine br_ns ?_ | refine br_not ?_ | refine br_d (fun h => ?_) (fun h => ?_) | refine br_e (fun h => ?_) (fun h => ?_) | refine br_n (fun h => ?_) (fun h => ?_) | refine drw (by kernel_rfl) ?_ | refine chk (by kernel_rfl) ?_ | refine stop ?_)
  all_goals refine Stop.mk ?_
  refine call_fn [] (check7_fn _ A c f hf (by omega) (by omega)) rfl trivial (by decide) ?_
  rintro sv H' G1 ⟨e1, rfl, he1, rfl, rfl⟩ -
  refine ⟨Nat.le_of_ble_eq_true rfl, ?_⟩
  repeat' ((fail_if_success with_reducible refine Stop.mk ?_); (conv => whnf); with_reducible first | refine br_t ?_ | refine br_f ?_ | refine br_nn ?_ | refine br_ns ?_ | refine br_not ?_ | refine br_d (fun h => ?_) (fun h => ?_) | refine br_e (fun h => ?_) (fun h => ?_) | refine br_n (fun h => ?_) (fun h => ?_) | refine drw (by kernel_rfl) ?_ | refine chk (by kernel_rfl) ?_ | refine stop ?_)
  all_goals refine Stop.mk ?_
  all_goals try
    refine call_fn [] (awake18_fn _) rfl trivial (by decide) ?_
    rintro sv H' G' ⟨rfl, rfl⟩ -
    refine ⟨Nat.le_of_ble_eq_true rfl, ?_⟩
    repeat' ((fail_if_success with_reducible refine Stop.mk ?_); (conv => whnf); with_reducible first | refine br_t ?_ | refine br_f ?_ | refine br_nn ?_ | refine br_ns ?_ | refine br_not ?_ | refine br_d (fun h => ?_) (fun h => ?_) | refine br_e (fun h => ?_) (fun h => ?_) | refine br_n (fun h => ?_) (fun h => ?_) | refine drw (by kernel_rfl) ?_ | refine chk (by kernel_rfl) ?_ | refine stop ?_)
    all_goals refine Stop.mk ?_
    exact fin_id hE 0 rfl rfl rfl rfl ⟨rfl, rfl⟩
  have he01 : e1 = 0 := by omega
  have hoF := he1.1 he01
  clear he1
  refine call_fn [] (copy7_fn _ A c f hf (by omega) (by omega)) rfl trivial (by decide) ?_
  rintro sv H' G2 ⟨⟨A2, c2, rfl, hcp⟩, rfl⟩ hg2
  refine ⟨Nat.le_of_ble_eq_true rfl, ?_⟩
  have hf2' := hf.to hg2
  unfold fnS
  repeat' ((fail_if_success with_reducible refine Stop.mk ?_); (conv => whnf); with_reducible first | refine br_t ?_ | refine br_f ?_ | refine br_nn ?_ | refine br_ns ?_ | refine br_not ?_ | refine br_d (fun h => ?_) (fun h => ?_) | refine br_e (fun h => ?_) (fun h => ?_) | refine br_n (fun h => ?_) (fun h => ?_) | refine drw (by kernel_rfl) ?_ | refine chk (by kernel_rfl) ?_ | refine stop ?_)
  all_goals refine Stop.mk ?_
  refine call_gh (gh_birthC 2 0 5 1 rfl rfl) (putFunc_fn _ A2 c2 f [] hcp.blk (by omega) (by decide) (by omega) (okFn_trm hoF)).enters ?_
  rintro g s' ⟨rfl, rfl⟩
  refine call_fn [2, 3] (putFunc_fn _ A2 c2 f [] hcp.blk (by omega) (by decide) (by omega) (okFn_trm hoF)) rfl ⟨rfl, rfl, trivial⟩ (by decide) ?_
  rintro sv H' G3 ⟨rfl, rfl⟩ hg3
  refine ⟨Nat.le_of_ble_eq_true rfl, ?_⟩
  rw [List.nil_append]
  replace hf2' := hf2'.to hg3
  have hown := hcp.blk.to hg3
  repeat' ((fail_if_success with_reducible refine Stop.mk ?_); (conv => whnf); with_reducible first | refine br_t ?_ | refine br_f ?_ | refine br_nn ?_ | refine br_ns ?_ | refine br_not ?_ | refine br_d (fun h => ?_) (fun h => ?_) | refine br_e (fun h => ?_) (fun h => ?_) | refine br_n (fun h => ?_) (fun h => ?_) | refine drw (by kernel_rfl) ?_ | refine chk (by kernel_rfl) ?_ | refine stop ?_)
  all_goals refine Stop.mk ?_
  refine call_fn [] (same7_fn _ A2 A c2 c f f hown hf2' ) rfl trivial (by decide) ?_
  rintro sv H' G4 ⟨rfl, rfl, rfl⟩ -
  refine ⟨Nat.le_of_ble_eq_true rfl, ?_⟩
  rw [decide_eq_true rfl]
  obtain ⟨css, Gc, hR, hSl, hg01, hg1', hfr, hdj⟩ := hcp.rows
  have hrl : ∀ r ∈ css, r.length = 5 := (kOwn _).rows_len hR
  have hcap := hSl.cap
  have hg34 : Ghe Gc G4 := fun b o h => hg3 b o (hg1' b o h)
  replace hSl := hSl.to hg3
  have hB := codeB_new hR
  have hE0' : ∀ b, CodeB css b → E.G0 b = none := fun b hb => by
    cases h : E.G0 b with
    | none => rfl
    | some o => rw [hE0] at h; exact absurd ((hB b hb).1.symm.trans (hg1 b o h)) (by simp)
  have hout : ∀ ad, A2 = some ad → ¬ CodeB css ad.block := fun ad had hb => by
    obtain ⟨o, ho⟩ := (hB _ hb).2
    have := hfr ad had
    rw [ho] at this; cases this
  have hgg : ∀ Gk, Sim (CodeB css) G4 Gk → Ghe G Gk := fun Gk hs => hs.ghe (fun b o h => hg3 b o (hg2 b o (hg1 b o h))) (fun b hb => (congrFun hE0 b).symm.trans (hE0' b hb))
  repeat' ((fail_if_success with_reducible refine Stop.mk ?_); (conv => whnf); with_reducible first | refine br_t ?_ | refine br_f ?_ | refine br_nn ?_ | refine br_ns ?_ | refine br_not ?_ | refine br_d (fun h => ?_) (fun h => ?_) | refine br_e (fun h => ?_) (fun h => ?_) | refine br_n (fun h => ?_) (fun h => ?_) | refine drw (by kernel_rfl) ?_ | refine chk (by kernel_rfl) ?_ | refine stop ?_)
  all_goals refine Stop.mk ?_
  refine loop_vars follows [(14, (.cons 0 [] (.cons 1 [] (.cons 2 [] (.cons 4 [] (.cons 3 [] (.cons 5 [4] (.cons 6 [4] (.cons 7 [] (.cons 8 [] .nil))))))))))] (α := Nat × Gh) (fun x => [(6, .v (.int .i64 x.1))])
    (fun x => [.cells 36 [.v (.int .i64 f.args), .v (.int .i64 f.regs), .v (.slice A f.blocks.length c)], .cells 36 [.v (.int .i64 f.args), .v (.int .i64 f.regs), .v (.slice A2 f.blocks.length c2)], .cells 42 [.s 3], .row 5 1 (wFn f).length (byts (wFn f))]) (fun x => x.2)
    (fun x => x.1 ≤ f.blocks.length ∧ Sim (CodeB css) G4 x.2) (fun x => f.blocks.length - x.1) (0, _)
    ⟨Nat.zero_le _, Sim.refl _ _⟩ rfl rfl ?_ ?_
  ·
    refine ⟨?_⟩
    (conv => whnf)
    (repeat' (first | exact trivial | exact .inl rfl | exact .inr rfl | refine And.intro ?_ ?_))
  rintro ⟨i, Gi⟩ ⟨hi, hsi⟩
  dsimp only at hi hsi ⊢
  have hw2 : IntKind.i64.wrap ((i : Int) + 1) = ((i + 1 : Nat) : Int) := by rw [i64_in (by omega) (by omega)]; simp
  repeat' ((fail_if_success with_reducible refine Stop.mk ?_); (conv => whnf); with_reducible first | refine br_t ?_ | refine br_f ?_ | refine br_nn ?_ | refine br_ns ?_ | refine br_not ?_ | refine br_d (fun h => ?_) (fun h => ?_) | refine br_e (fun h => ?_) (fun h => ?_) | refine br_n (fun h => ?_) (fun h => ?_) | refine drw (by kernel_rfl) ?_ | refine chk (by kernel_rfl) ?_ | refine stop ?_)
  all_goals refine Stop.mk ?_
  · have hil : i < f.blocks.length := by omega
    obtain ⟨b, hb⟩ : ∃ b, f.blocks[i]? = some b := ⟨_, List.getElem?_eq_getElem hil⟩
    obtain ⟨r, hr, hRb, Ai, ci, xs, rest, rfl, hfA, hWA, hSA⟩ := hR.get i b hb
    have hBi : ∀ a, Ai = some a → CodeB css a.block := fun a ha => ⟨_, List.mem_of_getElem? hr, a, _, _, _, by rw [ha], rfl⟩
    have hclb : b.code.length ≤ totB f.blocks := by
      have h1 := totB_take f.blocks i b hb
      have h2 := totB_le f.blocks (i + 1)
      omega
    refine loop_opq fun K0 hK0 => ?_
    refine loop_vars follows [(14, (.cons 0 [] (.cons 1 [] (.cons 2 [] (.cons 4 [] (.cons 3 [] (.cons 5 [4] (.cons 6 [4] (.cons 7 [] (.cons 8 [] .nil))))))))))] (α := Nat × Gh) (fun x => [(7, .v (.int .i64 x.1))])
      (fun x => [.cells 36 [.v (.int .i64 f.args), .v (.int .i64 f.regs), .v (.slice A f.blocks.length c)], .cells 36 [.v (.int .i64 f.args), .v (.int .i64 f.regs), .v (.slice A2 f.blocks.length c2)], .cells 42 [.s 3], .row 5 1 (wFn f).length (byts (wFn f))]) (fun x => x.2)
      (fun x => x.1 ≤ b.code.length ∧ Sim (CodeB css) G4 x.2) (fun x => b.code.length - x.1) (0, Gi)
      ⟨Nat.zero_le _, hsi⟩ rfl rfl ?_ ?_
    ·
      refine ⟨?_⟩
      (conv => whnf)
      (repeat' (first | exact trivial | exact .inl rfl | exact .inr rfl | refine And.intro ?_ ?_))
    rintro ⟨k, Gk⟩ ⟨hk, hsk⟩
    dsimp only at hk hsk ⊢
    have hw3 : IntKind.i64.wrap ((k : Int) + 1) = ((k + 1 : Nat) : Int) := by rw [i64_in (by omega) (by omega)]; simp
    have hSk := hsk.sl_off hSl hout
    obtain ⟨ys, hWy, hSy⟩ := hsk.sl (hWA.to hg34) (hSA.to hg34)
    repeat' ((fail_if_success with_reducible refine Stop.mk ?_); (conv => whnf); with_reducible first | refine br_t ?_ | refine br_f ?_ | refine br_nn ?_ | refine br_ns ?_ | refine br_not ?_ | refine br_d (fun h => ?_) (fun h => ?_) | refine br_e (fun h => ?_) (fun h => ?_) | refine br_n (fun h => ?_) (fun h => ?_) | refine drw (by kernel_rfl) ?_ | refine chk (by kernel_rfl) ?_ | refine stop ?_)
    all_goals refine Stop.mk ?_
    refine ⟨⟨by omega, by omega⟩, _, hSk, fun ad1 had1 _ => ?_⟩
    rw [Int.toNat_natCast, fget css hrl i _ hr] at had1
    repeat' ((fail_if_success with_reducible refine Stop.mk ?_); (conv => whnf); with_reducible first | refine br_t ?_ | refine br_f ?_ | refine br_nn ?_ | refine br_ns ?_ | refine br_not ?_ | refine br_d (fun h => ?_) (fun h => ?_) | refine br_e (fun h => ?_) (fun h => ?_) | refine br_n (fun h => ?_) (fun h => ?_) | refine drw (by kernel_rfl) ?_ | refine chk (by kernel_rfl) ?_ | refine stop ?_)
    all_goals refine Stop.mk ?_
    refine ⟨_, had1 0 _ rfl, ?_⟩
    repeat' ((fail_if_success with_reducible refine Stop.mk ?_); (conv => whnf); with_reducible first | refine br_t ?_ | refine br_f ?_ | refine br_nn ?_ | refine br_ns ?_ | refine br_not ?_ | refine br_d (fun h => ?_) (fun h => ?_) | refine br_e (fun h => ?_) (fun h => ?_) | refine br_n (fun h => ?_) (fun h => ?_) | refine drw (by kernel_rfl) ?_ | refine chk (by kernel_rfl) ?_ | refine stop ?_)
    all_goals refine Stop.mk ?_
    · refine ⟨⟨by omega, by omega⟩, _, hSk, fun ad2 had2 _ => ?_⟩
      rw [Int.toNat_natCast, fget css hrl i _ hr] at had2
      repeat' ((fail_if_success with_reducible refine Stop.mk ?_); (conv => whnf); with_reducible first | refine br_t ?_ | refine br_f ?_ | refine br_nn ?_ | refine br_ns ?_ | refine br_not ?_ | refine br_d (fun h => ?_) (fun h => ?_) | refine br_e (fun h => ?_) (fun h => ?_) | refine br_n (fun h => ?_) (fun h => ?_) | refine drw (by kernel_rfl) ?_ | refine chk (by kernel_rfl) ?_ | refine stop ?_)
      all_goals refine Stop.mk ?_
      refine ⟨_, had2 0 _ rfl, ?_⟩
      repeat' ((fail_if_success with_reducible refine Stop.mk ?_); (conv => whnf); with_reducible first | refine br_t ?_ | refine br_f ?_ | refine br_nn ?_ | refine br_ns ?_ | refine br_not ?_ | refine br_d (fun h => ?_) (fun h => ?_) | refine br_e (fun h => ?_) (fun h => ?_) | refine br_n (fun h => ?_) (fun h => ?_) | refine drw (by kernel_rfl) ?_ | refine chk (by kernel_rfl) ?_ | refine stop ?_)
      all_goals refine Stop.mk ?_
      refine ⟨⟨by omega, by omega⟩, _, hSy, fun ad3 had3 hadr => ?_⟩
      rw [Int.toNat_natCast] at hadr
      repeat' ((fail_if_success with_reducible refine Stop.mk ?_); (conv => whnf); with_reducible first | refine br_t ?_ | refine br_f ?_ | refine br_nn ?_ | refine br_ns ?_ | refine br_not ?_ | refine br_d (fun h => ?_) (fun h => ?_) | refine br_e (fun h => ?_) (fun h => ?_) | refine br_n (fun h => ?_) (fun h => ?_) | refine drw (by kernel_rfl) ?_ | refine chk (by kernel_rfl) ?_ | refine stop ?_)
      all_goals refine Stop.mk ?_
      obtain ⟨cs3, T3, hv1, hv2, hv3, hv4, hs'⟩ := th_simx (E := E) (.int .i64 0) hsk (hWA.to hg34) hWy hBi hE0' hadr rfl (fld := 0) (by rw [hSy.len]; omega) rfl
      refine ⟨cs3, T3, hv1, hv2, hv3, hv4, rfl, ?_⟩
      clear hv1 hv2 hv3 hv4
      generalize putG _ _ _ = G5 at *
      repeat' ((fail_if_success with_reducible refine Stop.mk ?_); (conv => whnf); with_reducible first | refine br_t ?_ | refine br_f ?_ | refine br_nn ?_ | refine br_ns ?_ | refine br_not ?_ | refine br_d (fun h => ?_) (fun h => ?_) | refine br_e (fun h => ?_) (fun h => ?_) | refine br_n (fun h => ?_) (fun h => ?_) | refine drw (by kernel_rfl) ?_ | refine chk (by kernel_rfl) ?_ | refine stop ?_)
      all_goals refine Stop.mk ?_
      rw [hw3]
      refine tell_here ⟨(k + 1, G5), ⟨by show k + 1 ≤ _; omega, hs'⟩, by show b.code.length - (k + 1) < b.code.length - k; omega, rfl, rfl, ?_⟩
      refine ⟨?_⟩
      (conv => whnf)
      (repeat' (first | exact trivial | exact .inl rfl | exact .inr rfl | refine And.intro ?_ ?_))
    · refine Stop.mk (hK0 _ _ ?_)
      clear hK0
      repeat' ((fail_if_success with_reducible refine Stop.mk ?_); (conv => whnf); with_reducible first | refine br_t ?_ | refine br_f ?_ | refine br_nn ?_ | refine br_ns ?_ | refine br_not ?_ | refine br_d (fun h => ?_) (fun h => ?_) | refine br_e (fun h => ?_) (fun h => ?_) | refine br_n (fun h => ?_) (fun h => ?_) | refine drw (by kernel_rfl) ?_ | refine chk (by kernel_rfl) ?_ | refine stop ?_)
      all_goals refine Stop.mk ?_
      rw [hw2]
      refine tell_here ⟨(i + 1, Gk), ⟨by show i + 1 ≤ _; omega, hsk⟩, by show f.blocks.length - (i + 1) < f.blocks.length - i; omega, rfl, rfl, ?_⟩
      refine ⟨?_⟩
      (conv => whnf)
      (repeat' (first | exact trivial | exact .inl rfl | exact .inr rfl | refine And.intro ?_ ?_))
  · have hfi := hf0.to (hgg _ hsi)
    refine call_fn [2, 3] (wout_fn _ (wFn f) (by omega)) rfl ⟨rfl, rfl, trivial⟩ (by decide) ?_
    rintro sv H' G7 ⟨rfl, rfl, rfl⟩ -
    refine ⟨Nat.le_of_ble_eq_true rfl, ?_⟩
    repeat' ((fail_if_success with_reducible refine Stop.mk ?_); (conv => whnf); with_reducible first | refine br_t ?_ | refine br_f ?_ | refine br_nn ?_ | refine br_ns ?_ | refine br_not ?_ | refine br_d (fun h => ?_) (fun h => ?_) | refine br_e (fun h => ?_) (fun h => ?_) | refine br_n (fun h => ?_) (fun h => ?_) | refine drw (by kernel_rfl) ?_ | refine chk (by kernel_rfl) ?_ | refine stop ?_)
    all_goals refine Stop.mk ?_
    refine call_fn [] (rputFunc_fn _ A c f hfi (by omega) (by omega) (okFn_ops hoF)) rfl trivial (by decide) ?_
    rintro sv H' G8 ⟨⟨A3, c3, rfl, hs3⟩, rfl⟩ hg8
    refine ⟨Nat.le_of_ble_eq_true rfl, ?_⟩
    repeat' ((fail_if_success with_reducible refine Stop.mk ?_); (conv => whnf); with_reducible first | refine br_t ?_ | refine br_f ?_ | refine br_nn ?_ | refine br_ns ?_ | refine br_not ?_ | refine br_d (fun h => ?_) (fun h => ?_) | refine br_e (fun h => ?_) (fun h => ?_) | refine br_n (fun h => ?_) (fun h => ?_) | refine drw (by kernel_rfl) ?_ | refine chk (by kernel_rfl) ?_ | refine stop ?_)
    all_goals refine Stop.mk ?_
    refine call_fz 4 rfl (byts_one _) (enters_of Try.func9 rfl rfl) fun Av cv Gv hgv hsv => ?_
    (conv => whnf)
    refine call_fn [] (same_fn _ Av A3 cv c3 (wFn f) (wFn f) (SlB.of _ hsv rfl rfl rfl) (Sl.to hgv hs3)) rfl trivial (by decide) ?_
    rintro sv H' G9 ⟨rfl, rfl, rfl⟩ -
    refine ⟨Nat.le_of_ble_eq_true rfl, ?_⟩
    rw [decide_eq_true rfl]
    repeat' ((fail_if_success with_reducible refine Stop.mk ?_); (conv => whnf); with_reducible first | refine br_t ?_ | refine br_f ?_ | refine br_nn ?_ | refine br_ns ?_ | refine br_not ?_ | refine br_d (fun h => ?_) (fun h => ?_) | refine br_e (fun h => ?_) (fun h => ?_) | refine br_n (fun h => ?_) (fun h => ?_) | refine drw (by kernel_rfl) ?_ | refine chk (by kernel_rfl) ?_ | refine stop ?_)
    all_goals refine Stop.mk ?_
    exact fin_id hE 0 rfl rfl rfl rfl ⟨rfl, rfl⟩
end Go.Proofs.Ytchebkpcgglllaa.Cu
