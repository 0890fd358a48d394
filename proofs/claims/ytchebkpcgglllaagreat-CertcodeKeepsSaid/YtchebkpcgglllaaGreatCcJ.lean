/- Certificates: a copy; what is encoded, in memory all its own. -/
import Derived.Test.YtchebkpcgglllaaGreatCcy
import Derived.Test.YtchebkpcgglllaaGreatKp2
import Derived.Test.YtchebkpcgglllaaGreatSXc
namespace Go.Proofs.YtchebkpcgglllaaGreat.Cu
open Go Go.SX Go.Proofs.YtchebkpcgglllaaGreat.VT
set_option maxRecDepth 100000
set_option linter.unusedVariables false
set_option linter.unusedSimpArgs false
set_option maxHeartbeats 8000000 in
theorem copy8_fn (G : Gh) (A : Option Addr) (c : Nat) (f : MFn) (hl : kMBlk.S G A c f.blocks) (hbl : f.blocks.length ≤ 1000000) (hcl : totMB f.blocks ≤ 1000000) :
    Ct Tryz.prog 57 [mfnS A c f] [] G fun sv H' G' => (∃ A' c', sv = mfnS A' c' f ∧ kMBlk.S G' A' c' f.blocks) ∧ H' = [] := by
  refine fn_of follows [(5, (.cons 0 [] (.cons 1 [] (.cons 3 [] (.cons 4 [] (.cons 5 [] (.cons 6 [] (.cons 7 [] (.cons 8 [] (.cons 10 [] (.cons 11 [] (.cons 12 [] (.cons 13 [] (.cons 14 [] (.cons 15 [] (.cons 2 [] (.cons 9 [4, 8] (.cons 16 [] (.cons 17 [4, 8, 11, 15] (.cons 18 [1, 4, 8, 11, 15] (.cons 19 [] (.cons 20 [1, 4, 8, 11, 15] .nil))))))))))))))))))))))] Tryz.func57 rfl rfl fun E hE => ?_
  have hcap := hl.cap
  unfold mfnS
  repeat' ((fail_if_success with_reducible refine Stop.mk ?_);(conv=>whnf);with_reducible first|refine br_t ?_|refine br_f ?_|refine br_nn ?_|refine br_ns ?_|refine br_not ?_|refine br_d (fun h=>?_) fun h=>?_|refine br_e (fun h=>?_) fun h=>?_|refine br_n (fun h=>?_) fun h=>?_|refine drw_fast (by kernel_rfl) ?_|refine chk (by kernel_rfl) ?_|refine stop ?_)
  all_goals refine Stop.mk ?_
  refine loop_gh (gh_birthC 2 3 63 5 rfl rfl) ?_
  rintro _ _ ⟨rfl, rfl⟩
  refine loop_vars follows [(5, (.cons 0 [] (.cons 1 [] (.cons 3 [] (.cons 4 [] (.cons 5 [] (.cons 6 [] (.cons 7 [] (.cons 8 [] (.cons 10 [] (.cons 11 [] (.cons 12 [] (.cons 13 [] (.cons 14 [] (.cons 15 [] (.cons 2 [] (.cons 9 [4, 8] (.cons 16 [] (.cons 17 [4, 8, 11, 15] (.cons 18 [1, 4, 8, 11, 15] (.cons 19 [] (.cons 20 [1, 4, 8, 11, 15] .nil))))))))))))))))))))))] (α := Nat × List Value × Gh) (fun x => [(4, .v (.int .i64 x.1))])
    (fun x => [.cells 28 [.v (.int .i64 f.args), .v (.int .i64 f.regs), .v (.int .i64 f.slots), .v (.slice A f.blocks.length c)], .cells 28 [.v (.int .i64 0), .v (.int .i64 0), .v (.int .i64 0), .v (.slice none 0 0)], .cells 28 [.v (.int .i64 f.args), .v (.int .i64 f.regs), .v (.int .i64 f.slots), .s 3], .row 63 5 x.1 x.2.1]) (fun x => x.2.2)
    (fun x => x.1 ≤ f.blocks.length ∧ Ghe G x.2.2 ∧ kMBlk.Cs x.2.2 (f.blocks.take x.1) x.2.1)
    (fun x => f.blocks.length - x.1) (0, [], G)
    ⟨Nat.zero_le _, fun _ _ h => h, Kd.Cs.nil _ _⟩ rfl rfl ?_ ?_
  ·
    refine ⟨?_⟩
    (conv => whnf)
    (repeat' (first | exact trivial | exact .inl rfl | exact .inr rfl | refine And.intro ?_ ?_))
  rintro ⟨k, vals, Gk⟩ ⟨hk, hgk, hvals⟩
  dsimp only at hk hgk hvals ⊢
  have hw2 : IntKind.i64.wrap ((k : Int) + 1) = ((k + 1 : Nat) : Int) := by rw [i64_in (by omega) (by omega)]; simp
  have hlk := hl.to hgk
  repeat' ((fail_if_success with_reducible refine Stop.mk ?_);(conv=>whnf);with_reducible first|refine br_t ?_|refine br_f ?_|refine br_nn ?_|refine br_ns ?_|refine br_not ?_|refine br_d (fun h=>?_) fun h=>?_|refine br_e (fun h=>?_) fun h=>?_|refine br_n (fun h=>?_) fun h=>?_|refine drw_fast (by kernel_rfl) ?_|refine chk (by kernel_rfl) ?_|refine stop ?_)
  all_goals refine Stop.mk ?_
  ·
    obtain ⟨_, hs_, hat_⟩ := hlk.at (sz := 5) rfl
    refine ⟨⟨by omega, by omega⟩, _, hs_, fun ad had hadr => ?_⟩
    obtain ⟨b, cells, hb, hRb, hGb⟩ := hat_ k (by omega) ad (by first | exact had | (rw [Int.toNat_natCast] at had; exact had))
    clear had hat_ hs_
    obtain ⟨A', c', rfl, hS, hbt⟩ := kMBlk_R hRb
    have hclb : b.code.length ≤ totMB f.blocks := by
      have h1 := totMB_take f.blocks k b hb
      have h2 := totMB_le f.blocks (k + 1)
      omega
    repeat' ((fail_if_success with_reducible refine Stop.mk ?_);(conv=>whnf);with_reducible first|refine br_t ?_|refine br_f ?_|refine br_nn ?_|refine br_ns ?_|refine br_not ?_|refine br_d (fun h=>?_) fun h=>?_|refine br_e (fun h=>?_) fun h=>?_|refine br_n (fun h=>?_) fun h=>?_|refine drw_fast (by kernel_rfl) ?_|refine chk (by kernel_rfl) ?_|refine stop ?_)
    all_goals refine Stop.mk ?_
    refine ⟨_, hGb 0 _ rfl, ?_⟩
    obtain ⟨ics, hI1, hI2⟩ := hS.cs
    have hcap2 := hI1.cap
    repeat' ((fail_if_success with_reducible refine Stop.mk ?_);(conv=>whnf);with_reducible first|refine br_t ?_|refine br_f ?_|refine br_nn ?_|refine br_ns ?_|refine br_not ?_|refine br_d (fun h=>?_) fun h=>?_|refine br_e (fun h=>?_) fun h=>?_|refine br_n (fun h=>?_) fun h=>?_|refine drw_fast (by kernel_rfl) ?_|refine chk (by kernel_rfl) ?_|refine stop ?_)
    all_goals refine Stop.mk ?_
    obtain ⟨_, hs_, hat_⟩ := hlk.at (sz := 5) rfl
    refine ⟨⟨by omega, by omega⟩, _, hs_, fun ad had hadr => ?_⟩
    obtain ⟨b2, cells, hb2, hRb2, hGb2⟩ := hat_ k (by omega) ad (by first | exact had | (rw [Int.toNat_natCast] at had; exact had))
    clear had hat_ hs_
    obtain rfl : b2 = b := by rw [hb] at hb2; cases hb2; rfl
    obtain ⟨A2, c2, rfl, hS2, hbt2⟩ := kMBlk_R hRb2
    repeat' ((fail_if_success with_reducible refine Stop.mk ?_);(conv=>whnf);with_reducible first|refine br_t ?_|refine br_f ?_|refine br_nn ?_|refine br_ns ?_|refine br_not ?_|refine br_d (fun h=>?_) fun h=>?_|refine br_e (fun h=>?_) fun h=>?_|refine br_n (fun h=>?_) fun h=>?_|refine drw_fast (by kernel_rfl) ?_|refine chk (by kernel_rfl) ?_|refine stop ?_)
    all_goals refine Stop.mk ?_
    refine ⟨i64s b2.term.l, rfl, hGb2.drop_ 1 (by show 1 < 5; decide), ?_⟩
    repeat' ((fail_if_success with_reducible refine Stop.mk ?_);(conv=>whnf);with_reducible first|refine br_t ?_|refine br_f ?_|refine br_nn ?_|refine br_ns ?_|refine br_not ?_|refine br_d (fun h=>?_) fun h=>?_|refine br_e (fun h=>?_) fun h=>?_|refine br_n (fun h=>?_) fun h=>?_|refine drw_fast (by kernel_rfl) ?_|refine chk (by kernel_rfl) ?_|refine stop ?_)
    all_goals refine Stop.mk ?_
    refine ⟨ics, hI1, by show (0 + b2.code.length) * 56 ≤ _; omega, ?_⟩
    simp only [Nat.zero_add, List.nil_append]
    repeat' ((fail_if_success with_reducible refine Stop.mk ?_);(conv=>whnf);with_reducible first|refine br_t ?_|refine br_f ?_|refine br_nn ?_|refine br_ns ?_|refine br_not ?_|refine br_d (fun h=>?_) fun h=>?_|refine br_e (fun h=>?_) fun h=>?_|refine br_n (fun h=>?_) fun h=>?_|refine drw_fast (by kernel_rfl) ?_|refine chk (by kernel_rfl) ?_|refine stop ?_)
    all_goals refine Stop.mk ?_
    refine And.intro hI2.ones ?_
    intro Ax cx Gx hgx hsx hkx
    (conv => whnf)
    refine And.intro (by show (k + 1) * 56 ≤ _; omega) ?_
    have hSx : kMac.S Gx Ax cx b2.code := Kd.S.of hsx rfl rfl (hI2.to hgx)
    repeat' ((fail_if_success with_reducible refine Stop.mk ?_);(conv=>whnf);with_reducible first|refine br_t ?_|refine br_f ?_|refine br_nn ?_|refine br_ns ?_|refine br_not ?_|refine br_d (fun h=>?_) fun h=>?_|refine br_e (fun h=>?_) fun h=>?_|refine br_n (fun h=>?_) fun h=>?_|refine drw_fast (by kernel_rfl) ?_|refine chk (by kernel_rfl) ?_|refine stop ?_)
    all_goals refine Stop.mk ?_
    rw [hw2]
    refine tell_gc hE [0, 1, 2, 3] rfl rfl ?_
    (conv => whnf)
    refine tell_here ⟨(k + 1, vals ++ (.slice Ax b2.code.length cx :: i64s b2.term.l), Gx), ⟨by show k + 1 ≤ _; omega, fun b o hb => hgx b o (hgk b o hb), ?_⟩, by show f.blocks.length - (k + 1) < f.blocks.length - k; omega, rfl, rfl, ?_⟩
    · show kMBlk.Cs Gx (f.blocks.take (k + 1)) _
      rw [List.take_add_one, hb]
      exact (hvals.to hgx).snoc ⟨Ax, cx, rfl, hSx, hbt2⟩
    ·
      refine ⟨?_⟩
      (conv => whnf)
      (repeat' (first | exact trivial | exact .inl rfl | exact .inr rfl | refine And.intro ?_ ?_))
  · have hkl : k = f.blocks.length := by omega
    subst hkl
    rw [List.take_length] at hvals
    refine fin_done 3 rfl hvals.ones fun Ax cx Gx hgx hsx => ?_
    (conv => whnf)
    exact fin_id hE 0 rfl rfl rfl rfl ⟨⟨Ax, cx, rfl, Kd.S.of hsx rfl rfl (hvals.to hgx)⟩, rfl⟩
def crtO (A B C : Option Addr) (a b c : Nat) (x : Crt) : Ob := .cells 31 [.v (.int .i64 x.s.args), .v (.int .i64 x.s.regs), .v (.slice A x.s.blocks.length a), .v (.int .i64 x.t.args), .v (.int .i64 x.t.regs), .v (.int .i64 x.t.slots), .v (.slice B x.t.blocks.length b), .v (.slice C x.w.length c)]
set_option maxHeartbeats 8000000 in
theorem copy16_fn {G : Gh} {A B C : Option Addr} {a b c : Nat} {x : Crt} (hG : CrtG G A B C a b c x) (hS : Sml x) :
    Ct Tryz.prog 18 [crtS A B C a b c x] [] G fun sv H' G' => (∃ A' B' C' a' b' c', sv = crtS A' B' C' a' b' c' x ∧ CrtG G' A' B' C' a' b' c' x) ∧ H' = [] := by
  refine fn_of follows [(1, (.cons 0 [] (.cons 1 [] (.cons 3 [] (.cons 4 [] (.alt (.cons 2 [] (.alt (.cons 5 [] (.cons 6 [] (.cons 7 [] (.cons 8 [] .nil)))) (.cons 7 [] (.cons 5 [] (.cons 6 [] (.cons 8 [] .nil)))))) (.cons 7 [] (.cons 2 [] (.cons 5 [] (.cons 6 [] (.cons 8 [] .nil))))))))))), (5, (.cons 0 [] (.cons 1 [] (.cons 3 [] (.cons 4 [] (.cons 5 [] (.cons 6 [] (.cons 7 [] (.cons 2 [] (.cons 8 [4, 7] (.cons 9 [4, 7] (.cons 10 [1, 4, 7] (.cons 11 [] (.cons 12 [1, 4, 7] .nil))))))))))))))] Tryz.func18 rfl rfl fun E hE => ?_
  obtain ⟨hs, ht, hw⟩ := hG
  obtain ⟨k1, k2, k3, m1, m2, m3, m4, n1, n2⟩ := hS
  have hcap := hw.cap
  unfold crtS
  repeat' ((fail_if_success with_reducible refine Stop.mk ?_);(conv=>whnf);with_reducible first|refine br_t ?_|refine br_f ?_|refine br_nn ?_|refine br_ns ?_|refine br_not ?_|refine br_d (fun h=>?_) fun h=>?_|refine br_e (fun h=>?_) fun h=>?_|refine br_n (fun h=>?_) fun h=>?_|refine drw_fast (by kernel_rfl) ?_|refine chk (by kernel_rfl) ?_|refine stop ?_)
  all_goals refine Stop.mk ?_
  refine And.intro ?_ ?_
  all_goals
    repeat' ((fail_if_success with_reducible refine Stop.mk ?_);(conv=>whnf);with_reducible first|refine br_t ?_|refine br_f ?_|refine br_nn ?_|refine br_ns ?_|refine br_not ?_|refine br_d (fun h=>?_) fun h=>?_|refine br_e (fun h=>?_) fun h=>?_|refine br_n (fun h=>?_) fun h=>?_|refine drw_fast (by kernel_rfl) ?_|refine chk (by kernel_rfl) ?_|refine stop ?_)
    all_goals refine Stop.mk ?_
  all_goals
    refine call_fn [] (copy7_fn _ A a x.s hs (by omega) (by omega)) rfl trivial (by decide) ?_
    rintro sv H' G1 ⟨⟨A1, a1, rfl, hs1⟩, rfl⟩ hg
    replace hs1 := hs1.blk
    replace ht := ht.to hg
    replace hw := hw.to hg
    clear hg
    refine ⟨Nat.le_of_ble_eq_true rfl, ?_⟩
    unfold fnS
    repeat' ((fail_if_success with_reducible refine Stop.mk ?_);(conv=>whnf);with_reducible first|refine br_t ?_|refine br_f ?_|refine br_nn ?_|refine br_ns ?_|refine br_not ?_|refine br_d (fun h=>?_) fun h=>?_|refine br_e (fun h=>?_) fun h=>?_|refine br_n (fun h=>?_) fun h=>?_|refine drw_fast (by kernel_rfl) ?_|refine chk (by kernel_rfl) ?_|refine stop ?_)
    all_goals refine Stop.mk ?_
  focus
    refine And.intro ?_ ?_
    all_goals
      repeat' ((fail_if_success with_reducible refine Stop.mk ?_);(conv=>whnf);with_reducible first|refine br_t ?_|refine br_f ?_|refine br_nn ?_|refine br_ns ?_|refine br_not ?_|refine br_d (fun h=>?_) fun h=>?_|refine br_e (fun h=>?_) fun h=>?_|refine br_n (fun h=>?_) fun h=>?_|refine drw_fast (by kernel_rfl) ?_|refine chk (by kernel_rfl) ?_|refine stop ?_)
      all_goals refine Stop.mk ?_
  all_goals
    refine call_fn [] (copy8_fn _ B b x.t ht (by omega) (by omega)) rfl trivial (by decide) ?_
    rintro sv H' G2 ⟨⟨B1, b1, rfl, ht1⟩, rfl⟩ hg2
    replace hs1 := hs1.to hg2
    replace hw := hw.to hg2
    clear hg2 hs ht
    refine ⟨Nat.le_of_ble_eq_true rfl, ?_⟩
    unfold mfnS
    repeat' ((fail_if_success with_reducible refine Stop.mk ?_);(conv=>whnf);with_reducible first|refine br_t ?_|refine br_f ?_|refine br_nn ?_|refine br_ns ?_|refine br_not ?_|refine br_d (fun h=>?_) fun h=>?_|refine br_e (fun h=>?_) fun h=>?_|refine br_n (fun h=>?_) fun h=>?_|refine drw_fast (by kernel_rfl) ?_|refine chk (by kernel_rfl) ?_|refine stop ?_)
    all_goals refine Stop.mk ?_
    refine loop_gh (gh_birthC 2 7 52 1 rfl rfl) ?_
    rintro _ _ ⟨rfl, rfl⟩
    refine loop_vars follows [(1, (.cons 0 [] (.cons 1 [] (.cons 3 [] (.cons 4 [] (.alt (.cons 2 [] (.alt (.cons 5 [] (.cons 6 [] (.cons 7 [] (.cons 8 [] .nil)))) (.cons 7 [] (.cons 5 [] (.cons 6 [] (.cons 8 [] .nil)))))) (.cons 7 [] (.cons 2 [] (.cons 5 [] (.cons 6 [] (.cons 8 [] .nil))))))))))), (5, (.cons 0 [] (.cons 1 [] (.cons 3 [] (.cons 4 [] (.cons 5 [] (.cons 6 [] (.cons 7 [] (.cons 2 [] (.cons 8 [4, 7] (.cons 9 [4, 7] (.cons 10 [1, 4, 7] (.cons 11 [] (.cons 12 [1, 4, 7] .nil))))))))))))))] (α := Nat × List Value × Gh) (fun y => [(4, .v (.int .i64 y.1))])
      (fun y => [crtO A B C a b c x, .cells 31 [.v (.int .i64 0), .v (.int .i64 0), .v (.slice none 0 0), .v (.int .i64 0), .v (.int .i64 0), .v (.int .i64 0), .v (.slice none 0 0), .v (.slice none 0 0)], .cells 31 [.v (.int .i64 x.s.args), .v (.int .i64 x.s.regs), .v (.slice A1 x.s.blocks.length a1), .v (.int .i64 x.t.args), .v (.int .i64 x.t.regs), .v (.int .i64 x.t.slots), .v (.slice B1 x.t.blocks.length b1), .s 3], .row 52 1 y.1 y.2.1]) (fun y => y.2.2)
      (fun y => y.1 ≤ x.w.length ∧ Ghe G2 y.2.2 ∧ kPrs.Cs y.2.2 (x.w.take y.1) y.2.1)
      (fun y => x.w.length - y.1) (0, [], G2)
      ⟨Nat.zero_le _, fun _ _ h => h, Kd.Cs.nil _ _⟩ rfl rfl ?_ ?_
    ·
      refine ⟨?_⟩
      (conv => whnf)
      (repeat' (first | exact trivial | exact .inl rfl | exact .inr rfl | refine And.intro ?_ ?_))
    rintro ⟨k, vals, Gk⟩ ⟨hk, hgk, hvals⟩
    dsimp only at hk hgk hvals ⊢
    have hw2 : IntKind.i64.wrap ((k : Int) + 1) = ((k + 1 : Nat) : Int) := by rw [i64_in (by omega) (by omega)]; simp
    have hlk := hw.to hgk
    unfold crtO
    repeat' ((fail_if_success with_reducible refine Stop.mk ?_);(conv=>whnf);with_reducible first|refine br_t ?_|refine br_f ?_|refine br_nn ?_|refine br_ns ?_|refine br_not ?_|refine br_d (fun h=>?_) fun h=>?_|refine br_e (fun h=>?_) fun h=>?_|refine br_n (fun h=>?_) fun h=>?_|refine drw_fast (by kernel_rfl) ?_|refine chk (by kernel_rfl) ?_|refine stop ?_)
    all_goals refine Stop.mk ?_
    ·
      obtain ⟨_, hs_, hat_⟩ := hlk.at (sz := 1) rfl
      refine ⟨⟨by omega, by omega⟩, _, hs_, fun ad had hadr => ?_⟩
      obtain ⟨ps, cells, hps, hRps, hGps⟩ := hat_ k (by omega) ad (by first | exact had | (rw [Int.toNat_natCast] at had; exact had))
      clear had hat_ hs_
      obtain ⟨A', c', rfl, hSp⟩ := kPrs_R hRps
      have hpl := n2 ps (List.mem_of_getElem? hps)
      repeat' ((fail_if_success with_reducible refine Stop.mk ?_);(conv=>whnf);with_reducible first|refine br_t ?_|refine br_f ?_|refine br_nn ?_|refine br_ns ?_|refine br_not ?_|refine br_d (fun h=>?_) fun h=>?_|refine br_e (fun h=>?_) fun h=>?_|refine br_n (fun h=>?_) fun h=>?_|refine drw_fast (by kernel_rfl) ?_|refine chk (by kernel_rfl) ?_|refine stop ?_)
      all_goals refine Stop.mk ?_
      refine ⟨_, ld1 hGps, ?_⟩
      obtain ⟨ics, hI1, hI2⟩ := hSp.cs
      have hcap2 := hI1.cap
      repeat' ((fail_if_success with_reducible refine Stop.mk ?_);(conv=>whnf);with_reducible first|refine br_t ?_|refine br_f ?_|refine br_nn ?_|refine br_ns ?_|refine br_not ?_|refine br_d (fun h=>?_) fun h=>?_|refine br_e (fun h=>?_) fun h=>?_|refine br_n (fun h=>?_) fun h=>?_|refine drw_fast (by kernel_rfl) ?_|refine chk (by kernel_rfl) ?_|refine stop ?_)
      all_goals refine Stop.mk ?_
      refine ⟨ics, hI1, by show (0 + ps.length) * 16 ≤ _; omega, ?_⟩
      simp only [Nat.zero_add, List.nil_append]
      repeat' ((fail_if_success with_reducible refine Stop.mk ?_);(conv=>whnf);with_reducible first|refine br_t ?_|refine br_f ?_|refine br_nn ?_|refine br_ns ?_|refine br_not ?_|refine br_d (fun h=>?_) fun h=>?_|refine br_e (fun h=>?_) fun h=>?_|refine br_n (fun h=>?_) fun h=>?_|refine drw_fast (by kernel_rfl) ?_|refine chk (by kernel_rfl) ?_|refine stop ?_)
      all_goals refine Stop.mk ?_
      refine And.intro hI2.ones ?_
      intro Ax cx Gx hgx hsx hkx
      (conv => whnf)
      refine And.intro (by show (k + 1) * 24 ≤ _; omega) ?_
      have hSx : kPr.S Gx Ax cx ps := Kd.S.of hsx rfl rfl (hI2.to hgx)
      repeat' ((fail_if_success with_reducible refine Stop.mk ?_);(conv=>whnf);with_reducible first|refine br_t ?_|refine br_f ?_|refine br_nn ?_|refine br_ns ?_|refine br_not ?_|refine br_d (fun h=>?_) fun h=>?_|refine br_e (fun h=>?_) fun h=>?_|refine br_n (fun h=>?_) fun h=>?_|refine drw_fast (by kernel_rfl) ?_|refine chk (by kernel_rfl) ?_|refine stop ?_)
      all_goals refine Stop.mk ?_
      rw [hw2]
      refine tell_gc hE [0, 1, 2, 3] rfl rfl ?_
      (conv => whnf)
      refine tell_here ⟨(k + 1, vals ++ [.slice Ax ps.length cx], Gx), ⟨by show k + 1 ≤ _; omega, fun b o hb => hgx b o (hgk b o hb), ?_⟩, by show x.w.length - (k + 1) < x.w.length - k; omega, rfl, rfl, ?_⟩
      · show kPrs.Cs Gx (x.w.take (k + 1)) _
        rw [List.take_add_one, hps]
        exact (hvals.to hgx).snoc ⟨Ax, cx, rfl, hSx⟩
      ·
        refine ⟨?_⟩
        (conv => whnf)
        (repeat' (first | exact trivial | exact .inl rfl | exact .inr rfl | refine And.intro ?_ ?_))
    · have hkl : k = x.w.length := by omega
      subst hkl
      rw [List.take_length] at hvals
      refine fin_done 3 rfl hvals.ones fun Ax cx Gx hgx hsx => ?_
      (conv => whnf)
      exact fin_id hE 0 rfl rfl rfl rfl ⟨⟨A1, B1, Ax, a1, b1, cx, rfl, (hs1.to hgk).to hgx, (ht1.to hgk).to hgx, Kd.S.of hsx rfl rfl (hvals.to hgx)⟩, rfl⟩
end Go.Proofs.YtchebkpcgglllaaGreat.Cu
